/-
   Written by an AI agent.
-/
import Derived.Test.YtbjegfpfmnleeaaGreatDoorPk13
namespace Go.Proofs.YtbjegfpfmnleeaaGreatDoor
open Go.RowKit Go.Sort
set_option maxRecDepth 100000
variable {a:Act} {w:World} {df:List Deferred} {N:Act->World->Prop} {Q:Exit->Act->World->Prop} {l:List (Nat×Value)}
variable {C0:World->S3->World->Prop} {ac an bc bn fc fn g28 g3 g30 g34 gp i k lc ln nc nn o28 o30 o34 oc on rc rn sc sn st tc tn wc wn xc xn:Nat} {ad bd fd ld nd od rd sd td wd xd:Option Addr} {b20 b23 b35:Bool} {e j n o x y:Int} {mx:Dm}
noncomputable def W4 (n:Nat):Code:=((Tryz.f32.body.bind (D4 n)).getD .skip)
noncomputable def Da8:Code:=(.seq (.seq (W4 2) (.cond (.tmp 12) .skip (.exit 0))) (.seq (.block 1 (.seq (W4 4) (.cond (.tmp 23) (.seq (W4 5) .ret) .skip))) (W4 3)))
noncomputable def Xw:Code:=(.seq (W4 0) (.seq (.seq (W4 1) (.block 0 (.loop Da8))) (.seq (W4 6) .ret)))
theorem Am5:Tryz.f32.body=some Xw:=by kernel_rfl
theorem Da9(hs:Sl 25 a l df)
  (hN: ∀a',Sl 25 a' ((4,ii 0)::A6 [4] l) df->N a' w):Rg N Q a w (W4 0):=
 Zg [4] hs hN
theorem Db0(hs:Sl 25 a l df)
  (hN: ∀a',Sl 25 a' ((5,ii 0)::A6 [5] l) df->N a' w):Rg N Q a w (W4 1):=
 Zg [5] hs hN
theorem Bc1{b12:Bool}(hs:Sl 25 a l df)(e5:Lk l 5 (ii (i:Int)))(e0:Lk l 0 (pT gp))(l0:Lp 24 (pT gp) (.slice nd nn nc) w)(h1:decide ((i:Int)<(nn:Int))=b12)
  (hN: ∀a',Sl 25 a' ((12,.bool b12)::A6 (List.range' 6 7) l) df->N a' w):Rg N Q a w (W4 2):=
 reg [12] (List.range' 6 7) [.val (.slice nd nn nc),.bit b12] hs (Zc e5<|Zc e0 Zz) (aI l0.run (aI h1 hN)) Zk
theorem Db1(hs:Sl 25 a l df)(e5:Lk l 5 (ii (i:Int)))(h0: -9223372036854775808<=(i:Int)+1/\(i:Int)+1<=9223372036854775807)
  (hN: ∀a',Sl 25 a' ((5,ii ((i:Int)+1))::A6 [5,13,14] l) df->N a' w):Rg N Q a w (W4 3):=
 reg [5] [5,13,14] [.ari] hs (Zc e5 Zz) (aI h0 hN) Zk
theorem Bc2{g20 o20:Nat}(hs:Sl 25 a l df)(e0:Lk l 0 (pT gp))(e5:Lk l 5 (ii (i:Int)))(e1:Lk l 1 (ii n))(l0:Lp 24 (pT gp) (.slice nd nn nc) w)(i1:Ix 24 (.slice nd nn nc) (ii (i:Int)) (pF g20 o20))(l2:Lp 3 (pF g20 o20) (ii x) w)(h3:decide (x=n)=b23)
  (hN: ∀a',Sl 25 a' ((23,.bool b23)::A6 (List.range' 15 9) l) df->N a' w):Rg N Q a w (W4 4):=
 reg [23] (List.range' 15 9) [.val (.slice nd nn nc),.val (pF g20 o20),.val (ii x),.bit b23] hs (Zc e0<|Zc e5<|Zc e1 Zz) (aI l0.run (aI (i1 w) (aI l2.run (aI h3 hN)))) Zk
theorem Db2(hs:Sl 25 a l df)(e5:Lk l 5 (ii (i:Int)))
  (hN: ∀a',Sl 25 a' ((4,ii (i:Int))::A6 [4,24] l) df->N a' w):Rg N Q a w (W4 5):=
 reg [4] [4,24] [] hs (Zc e5 Zz) hN Zk
theorem Db3(hs:Sl 25 a l df)
  (hN: ∀a',Sl 25 a' ((4,ii (-1))::A6 [4] l) df->N a' w):Rg N Q a w (W4 6):=
 Zg [4] hs hN
noncomputable def P5 (n:Nat):Code:=((Tryz.f54.body.bind (D4 n)).getD .skip)
noncomputable def Db4:Code:=(.seq (.seq (P5 5) (.cond (.tmp 23) .skip (.exit 0))) (.seq (.block 1 (P5 7)) (P5 6)))
noncomputable def Xx:Code:=(.seq (P5 0) (.seq (.seq (P5 1) (.cond (.tmp 9) (P5 2) .skip)) (.seq (.seq (P5 3) (.cond (.tmp 18) (.seq (P5 4) (.block 0 (.loop Db4))) .skip)) (.seq (P5 8) .ret))))
theorem Am6:Tryz.f54.body=some Xx:=by kernel_rfl
theorem Db5{d:Dt}{m:Dm}(hs:Sl 34 a l df)(e1:Lk l 1 (.agg (d.cs m)))
  (hN: ∀a',Sl 34 a' ((3,pT w.heap.size)::(4,.slice none 0 0)::A6 [3,4] l) df->N a' (w.alloc (.cells (d.cs m) 53))):Rg N Q a w (P5 0):=
 reg [3,4] [3,4] [.raw] hs (Zc e1 Zz) hN Zk
theorem Bc3{b9:Bool}(hs:Sl 34 a l df)(e3:Lk l 3 (pT g3))(l0:Lp 3 (pF g3 (5+0)) (ii o) w)(h1:decide (o≠0)=b9)
  (hN: ∀a',Sl 34 a' ((9,.bool b9)::A6 [6,7,8,9] l) df->N a' w):Rg N Q a w (P5 1):=
 reg [9] [6,7,8,9] [.val (ii o),.bit b9] hs (Zc e3 Zz) (aI l0.run (aI h1 hN)) Zk
theorem Db6(hs:Sl 34 a l df)(e0:Lk l 0 (.slice od on oc))(e3:Lk l 3 (pT g3))(l0:Lp 3 (pF g3 (5+0)) (ii o) w)(k1: ∀ty,∃v w',(Builtin.append_ #[24,24] ty #[.slice od on oc,.slice (some ⟨w.heap.size,0,none⟩) 1 1]).run Tryz.prog (w.alloc (.cells #[ii o] 3))=.ok v.v w'/\C0 (w.alloc (.cells #[ii o] 3)) v w')
  (hN: ∀a' (x15:S3) (w1:World),C0 (w.alloc (.cells #[ii o] 3)) x15 w1->Sl 34 a' ((0,.slice x15.d x15.n x15.c)::A6 (0::List.range' 10 6) l) df->N a' w1):Rg N Q a w (P5 2):=
 reg [0] (0::List.range' 10 6) [.val (ii o),.raw,.apxw S3 S3.v C0] hs (Zc e0<|Zc e3 Zz) (aI l0.run (aI k1 (fun(x15:S3) (w1:World) (hc0:C0 (w.alloc (.cells #[ii o] 3)) x15 w1)a'=>hN a' x15 w1 hc0))) Zk
theorem Bc4{k:Int}{b18:Bool}(hs:Sl 34 a l df)(e3:Lk l 3 (pT g3))(l0:Lp 3 (pT g3) (ii k) w)(h1:decide (k=8)=b18)
  (hN: ∀a',Sl 34 a' ((18,.bool b18)::A6 [16,17,18] l) df->N a' w):Rg N Q a w (P5 3):=
 reg [18] [16,17,18] [.val (ii k),.bit b18] hs (Zc e3 Zz) (aI l0.run (aI h1 hN)) Zk
theorem Db7(hs:Sl 34 a l df)
  (hN: ∀a',Sl 34 a' ((5,ii 0)::A6 [5] l) df->N a' w):Rg N Q a w (P5 4):=
 Zg [5] hs hN
theorem Bc5(hs:Sl 34 a l df)(e5:Lk l 5 (ii (i:Int)))(e3:Lk l 3 (pT g3))(l0:Lp 23 (pF g3 10) (.slice sd sn sc) w)(h1:decide ((i:Int)<(sn:Int))=b23)
  (hN: ∀a',Sl 34 a' ((23,.bool b23)::A6 [19,20,21,22,23] l) df->N a' w):Rg N Q a w (P5 5):=
 reg [23] [19,20,21,22,23] [.val (.slice sd sn sc),.bit b23] hs (Zc e5<|Zc e3 Zz) (aI l0.run (aI h1 hN)) Zk
theorem Db8(hs:Sl 34 a l df)(e5:Lk l 5 (ii (i:Int)))(h0: -9223372036854775808<=(i:Int)+1/\(i:Int)+1<=9223372036854775807)
  (hN: ∀a',Sl 34 a' ((5,ii ((i:Int)+1))::A6 [5,24,25] l) df->N a' w):Rg N Q a w (P5 6):=
 reg [5] [5,24,25] [.ari] hs (Zc e5 Zz) (aI h0 hN) Zk
theorem Db9{x:Dt}{C0:S3->World->Prop}(hs:Sl 34 a l df)(e0:Lk l 0 (.slice od on oc))(e3:Lk l 3 (pT g3))(e5:Lk l 5 (ii (i:Int)))(l0:Lp 23 (pF g3 10) (.slice sd sn sc) w)(i1:Ix 23 (.slice sd sn sc) (ii (i:Int)) (pF g30 o30))(l2:Lp 53 (pF g30 o30) (.agg (x.cs mx)) w)(k3:Ca 54 #[.slice od on oc,.agg (x.cs mx)] w fun e w'=> ∃q:S3,e=.returned (.slice q.d q.n q.c)/\C0 q w')
  (hN: ∀a' (q:S3) (w1:World),C0 q w1->Sl 34 a' ((0,.slice q.d q.n q.c)::A6 (0::List.range' 26 7) l) df->N a' w1):Rg N Q a w (P5 7):=
 reg [0] (0::List.range' 26 7) [.val (.slice sd sn sc),.val (pF g30 o30),.val (.agg (x.cs mx)),.ex (S3) (fun q=>.slice q.d q.n q.c) C0] hs (Zc e0<|Zc e3<|Zc e5 Zz) (aI l0.run (aI (i1 w) (aI l2.run (aI k3 (fun(q:S3) (w1:World) (hc0:C0 q w1)a'=>hN a' q w1 hc0))))) Zk
theorem Dc0(hs:Sl 34 a l df)(e0:Lk l 0 (.slice od on oc))
  (hN: ∀a',Sl 34 a' ((4,.slice od on oc)::A6 [4,33] l) df->N a' w):Rg N Q a w (P5 8):=
 reg [4] [4,33] [] hs (Zc e0 Zz) hN Zk
noncomputable def J5 (n:Nat):Code:=((Tryz.f31.body.bind (D4 n)).getD .skip)
noncomputable def Dc1:Code:=(.seq (.seq (J5 9) (.cond (.tmp 30) .skip (.exit 2))) (.seq (.block 3 (.seq (J5 11) (.seq (J5 12) (.cond (.tmp 40) (J5 13) .skip)))) (J5 10)))
noncomputable def Dc2:Code:=(.seq (.seq (J5 3) (.cond (.tmp 15) .skip (.exit 0))) (.seq (.block 1 (J5 5)) (J5 4)))
noncomputable def Xy:Code:=(.seq (J5 0) (.seq (J5 1) (.seq (.seq (J5 2) (.block 0 (.loop Dc2))) (.seq (J5 6) (.seq (J5 7) (.seq (.seq (J5 8) (.block 2 (.loop Dc1))) (.seq (J5 14) .ret)))))))
theorem Am7:Tryz.f31.body=some Xy:=by kernel_rfl
theorem Dc3(hs:Sl 46 a l df)
  (hN: ∀a',Sl 46 a' ((6,.slice none 0 0)::A6 [6] l) df->N a' w):Rg N Q a w (J5 0):=
 Zg [6] hs hN
theorem Dc4(hs:Sl 46 a l df)
  (hN: ∀a',Sl 46 a' ((7,.slice none 0 0)::A6 [7] l) df->N a' w):Rg N Q a w (J5 1):=
 Zg [7] hs hN
theorem Dc5(hs:Sl 46 a l df)
  (hN: ∀a',Sl 46 a' ((8,ii 0)::A6 [8] l) df->N a' w):Rg N Q a w (J5 2):=
 Zg [8] hs hN
theorem Bc6{b15:Bool}(hs:Sl 46 a l df)(e8:Lk l 8 (ii (i:Int)))(e1:Lk l 1 (.slice ld ln lc))(h0:decide ((i:Int)<(ln:Int))=b15)
  (hN: ∀a',Sl 46 a' ((15,.bool b15)::A6 [12,13,14,15] l) df->N a' w):Rg N Q a w (J5 3):=
 reg [15] [12,13,14,15] [.bit b15] hs (Zc e8<|Zc e1 Zz) (aI h0 hN) Zk
theorem Dc6(hs:Sl 46 a l df)(e8:Lk l 8 (ii (i:Int)))(h0: -9223372036854775808<=(i:Int)+1/\(i:Int)+1<=9223372036854775807)
  (hN: ∀a',Sl 46 a' ((8,ii ((i:Int)+1))::A6 [8,16,17] l) df->N a' w):Rg N Q a w (J5 4):=
 reg [8] [8,16,17] [.ari] hs (Zc e8 Zz) (aI h0 hN) Zk
theorem Dc7{g21 o21:Nat}{x:Dt}{C0:S3->World->Prop}(hs:Sl 46 a l df)(e7:Lk l 7 (.slice ad an ac))(e1:Lk l 1 (.slice ld ln lc))(e8:Lk l 8 (ii (i:Int)))(i0:Ix 23 (.slice ld ln lc) (ii (i:Int)) (pF g21 o21))(l1:Lp 53 (pF g21 o21) (.agg (x.cs mx)) w)(k2:Ca 54 #[.slice ad an ac,.agg (x.cs mx)] w fun e w'=> ∃q:S3,e=.returned (.slice q.d q.n q.c)/\C0 q w')
  (hN: ∀a' (q:S3) (w1:World),C0 q w1->Sl 46 a' ((7,.slice q.d q.n q.c)::A6 (7::List.range' 18 6) l) df->N a' w1):Rg N Q a w (J5 5):=
 reg [7] (7::List.range' 18 6) [.val (pF g21 o21),.val (.agg (x.cs mx)),.ex (S3) (fun q=>.slice q.d q.n q.c) C0] hs (Zc e7<|Zc e1<|Zc e8 Zz) (aI (i0 w) (aI l1.run (aI k2 (fun(q:S3) (w1:World) (hc0:C0 q w1)a'=>hN a' q w1 hc0)))) Zk
theorem Dc8(hs:Sl 46 a l df)(e7:Lk l 7 (.slice ad an ac))(e2:Lk l 2 (.slice bd bn bc))(k0: ∀ty,∃v w',(Builtin.append_ #[24,24] ty #[.slice ad an ac,.slice bd bn bc]).run Tryz.prog w=.ok v.v w'/\C0 w v w')
  (hN: ∀a' (x26:S3) (w1:World),C0 w x26 w1->Sl 46 a' ((7,.slice x26.d x26.n x26.c)::A6 [7,24,25,26] l) df->N a' w1):Rg N Q a w (J5 6):=
 reg [7] [7,24,25,26] [.apxw S3 S3.v C0] hs (Zc e7<|Zc e2 Zz) (aI k0 (fun(x26:S3) (w1:World) (hc0:C0 w x26 w1)a'=>hN a' x26 w1 hc0)) Zk
theorem Dc9(hs:Sl 46 a l df)
  (hN: ∀a',Sl 46 a' ((9,.slice none 0 0)::A6 [9] l) df->N a' w):Rg N Q a w (J5 7):=
 Zg [9] hs hN
theorem Dd0(hs:Sl 46 a l df)
  (hN: ∀a',Sl 46 a' ((10,ii 0)::A6 [10] l) df->N a' w):Rg N Q a w (J5 8):=
 Zg [10] hs hN
theorem Bc7{b30:Bool}(hs:Sl 46 a l df)(e10:Lk l 10 (ii (i:Int)))(e7:Lk l 7 (.slice ad an ac))(h0:decide ((i:Int)<(an:Int))=b30)
  (hN: ∀a',Sl 46 a' ((30,.bool b30)::A6 [27,28,29,30] l) df->N a' w):Rg N Q a w (J5 9):=
 reg [30] [27,28,29,30] [.bit b30] hs (Zc e10<|Zc e7 Zz) (aI h0 hN) Zk
theorem Xz(hs:Sl 46 a l df)(e10:Lk l 10 (ii (i:Int)))(h0: -9223372036854775808<=(i:Int)+1/\(i:Int)+1<=9223372036854775807)
  (hN: ∀a',Sl 46 a' ((10,ii ((i:Int)+1))::A6 [10,31,32] l) df->N a' w):Rg N Q a w (J5 10):=
 reg [10] [10,31,32] [.ari] hs (Zc e10 Zz) (aI h0 hN) Zk
theorem Bs8{g36 o36:Nat}{k:Int}{C0:World->Prop}(hs:Sl 46 a l df)(e0:Lk l 0 (pT gp))(e7:Lk l 7 (.slice ad an ac))(e10:Lk l 10 (ii (i:Int)))(i0:Ix 24 (.slice ad an ac) (ii (i:Int)) (pF g36 o36))(l1:Lp 3 (pF g36 o36) (ii x) w)(k2:Cl 32 #[pT gp,ii x] w (ii k) C0)
  (hN: ∀a' (w1:World),C0 w1->Sl 46 a' ((11,ii k)::A6 (11::List.range' 33 6) l) df->N a' w1):Rg N Q a w (J5 11):=
 reg [11] (11::List.range' 33 6) [.val (pF g36 o36),.val (ii x),.ret (ii k) C0] hs (Zc e0<|Zc e7<|Zc e10 Zz) (aI (i0 w) (aI l1.run (aI k2 (fun(w1:World) (hc0:C0 w1)a'=>hN a' w1 hc0)))) Zk
theorem Ya{k:Int}{b40:Bool}(hs:Sl 46 a l df)(e11:Lk l 11 (ii k))(h0:decide ((0:Int)<=k)=b40)
  (hN: ∀a',Sl 46 a' ((40,.bool b40)::A6 [39,40] l) df->N a' w):Rg N Q a w (J5 12):=
 reg [40] [39,40] [.bit b40] hs (Zc e11 Zz) (aI h0 hN) Zk
theorem Bs9{k:Int}(hs:Sl 46 a l df)(e9:Lk l 9 (.slice od on oc))(e11:Lk l 11 (ii k))(k0: ∀ty,∃v w',(Builtin.append_ #[24,24] ty #[.slice od on oc,.slice (some ⟨w.heap.size,0,none⟩) 1 1]).run Tryz.prog (w.alloc (.cells #[ii k] 3))=.ok v.v w'/\C0 (w.alloc (.cells #[ii k] 3)) v w')
  (hN: ∀a' (x44:S3) (w1:World),C0 (w.alloc (.cells #[ii k] 3)) x44 w1->Sl 46 a' ((9,.slice x44.d x44.n x44.c)::A6 [9,41,42,43,44] l) df->N a' w1):Rg N Q a w (J5 13):=
 reg [9] [9,41,42,43,44] [.raw,.apxw S3 S3.v C0] hs (Zc e9<|Zc e11 Zz) (aI k0 (fun(x44:S3) (w1:World) (hc0:C0 (w.alloc (.cells #[ii k] 3)) x44 w1)a'=>hN a' x44 w1 hc0)) Zk
theorem Bt0(hs:Sl 46 a l df)(e9:Lk l 9 (.slice od on oc))
  (hN: ∀a',Sl 46 a' ((6,.slice od on oc)::A6 [6,45] l) df->N a' w):Rg N Q a w (J5 14):=
 reg [6] [6,45] [] hs (Zc e9 Zz) hN Zk
noncomputable def G6 (n:Nat):Code:=((Tryz.f14.body.bind (D4 n)).getD .skip)
noncomputable def Dd1:Code:=(.seq (.seq (G6 16) (.cond (.tmp 72) .skip (.exit 4))) (.seq (.block 5 (.seq (G6 18) (.cond (.tmp 78) (G6 19) .skip))) (G6 17)))
noncomputable def Bt1:Code:=(.seq (.seq (G6 9) (.cond (.tmp 48) .skip (.exit 2))) (.seq (.block 3 (.seq (G6 11) (.seq (G6 12) (.cond (.tmp 64) (G6 13) .skip)))) (G6 10)))
noncomputable def Bt2:Code:=(.seq (.seq (G6 3) (.cond (.tmp 26) .skip (.exit 0))) (.block 1 (.seq (G6 4) (.seq (G6 5) (.seq (.seq (G6 6) (.cond (.tmp 35) (.exit 1) .skip)) (.seq (G6 7) (.seq (G6 8) (.block 2 (.loop Bt1)))))))))
noncomputable def Yb:Code:=(.seq (G6 0) (.seq (G6 1) (.seq (G6 2) (.seq (.block 0 (.loop Bt2)) (.seq (G6 14) (.seq (.seq (G6 15) (.block 4 (.loop Dd1))) (.seq (G6 20) .ret)))))))
theorem Am8:Tryz.f14.body=some Yb:=by kernel_rfl
theorem Dd2(hs:Sl 90 a l df)
  (hN: ∀a',Sl 90 a' ((6,.slice none 0 0)::A6 [6] l) df->N a' w):Rg N Q a w (G6 0):=
 Zg [6] hs hN
theorem Dd3{wm19:World}(hs:Sl 90 a l df)(e0:Lk l 0 (pT gp))(l0:Lp 24 (pT gp) (.slice nd nn nc) w)(m1:(Instr.makeSlice 73 (ii (nn:Int)) (ii (nn:Int))).run Tryz.prog w=.ok (.slice (some ⟨w.heap.size,0,none⟩) nn nn) wm19)
  (hN: ∀a',Sl 90 a' ((7,.slice (some ⟨w.heap.size,0,none⟩) nn nn)::A6 (7::List.range' 14 6) l) df->N a' wm19):Rg N Q a w (G6 1):=
 reg [7] (7::List.range' 14 6) [.val (.slice nd nn nc),.vw (.slice (some ⟨w.heap.size,0,none⟩) nn nn) wm19] hs (Zc e0 Zz) (aI l0.run (aI m1 hN)) Zk
theorem Dd4{C0:S3->World->Prop}(hs:Sl 90 a l df)(e0:Lk l 0 (pT gp))(e1:Lk l 1 (.slice ld ln lc))(e2:Lk l 2 (.slice bd bn bc))(k0:Ca 31 #[pT gp,.slice ld ln lc,.slice bd bn bc] w fun e w'=> ∃q:S3,e=.returned (.slice q.d q.n q.c)/\C0 q w')
  (hN: ∀a' (q:S3) (w1:World),C0 q w1->Sl 90 a' ((8,.slice q.d q.n q.c)::A6 [8,20,21,22,23] l) df->N a' w1):Rg N Q a w (G6 2):=
 reg [8] [8,20,21,22,23] [.ex (S3) (fun q=>.slice q.d q.n q.c) C0] hs (Zc e0<|Zc e1<|Zc e2 Zz) (aI k0 (fun(q:S3) (w1:World) (hc0:C0 q w1)a'=>hN a' q w1 hc0)) Zk
theorem Bc8{b26:Bool}(hs:Sl 90 a l df)(e8:Lk l 8 (.slice wd wn wc))(h0:decide ((0:Int)<(wn:Int))=b26)
  (hN: ∀a',Sl 90 a' ((26,.bool b26)::A6 [24,25,26] l) df->N a' w):Rg N Q a w (G6 3):=
 reg [26] [24,25,26] [.bit b26] hs (Zc e8 Zz) (aI h0 hN) Zk
theorem Dd5(hs:Sl 90 a l df)(e8:Lk l 8 (.slice wd wn wc))(i0:Ix 24 (.slice wd wn wc) (ii 0) (pF g28 o28))(l1:Lp 3 (pF g28 o28) (ii (k:Int)) w)
  (hN: ∀a',Sl 90 a' ((9,ii (k:Int))::A6 [9,27,28,29] l) df->N a' w):Rg N Q a w (G6 4):=
 reg [9] [9,27,28,29] [.val (pF g28 o28),.val (ii (k:Int))] hs (Zc e8 Zz) (aI (i0 w) (aI l1.run hN)) Zk
theorem Dd6{d31:Option Addr}{n31 q31:Nat}(hs:Sl 90 a l df)(e8:Lk l 8 (.slice wd wn wc))(i0: ∀w,(Instr.sliceAt 24 (.slice wd wn wc) (some (ii 1)) none none).run Tryz.prog w=.ok (.slice d31 n31 q31) w)
  (hN: ∀a',Sl 90 a' ((8,.slice d31 n31 q31)::A6 [8,30,31] l) df->N a' w):Rg N Q a w (G6 5):=
 reg [8] [8,30,31] [.val (.slice d31 n31 q31)] hs (Zc e8 Zz) (aI (i0 w) hN) Zk
theorem Bc9(hs:Sl 90 a l df)(e7:Lk l 7 (.slice sd sn sc))(e9:Lk l 9 (ii (k:Int)))(i0:Ix 73 (.slice sd sn sc) (ii (k:Int)) (pF g34 o34))(l1:Lp 4 (pF g34 o34) (.bool b35) w)
  (hN: ∀a',Sl 90 a' ((35,.bool b35)::A6 [32,33,34,35] l) df->N a' w):Rg N Q a w (G6 6):=
 reg [35] [32,33,34,35] [.val (pF g34 o34),.val (.bool b35)] hs (Zc e7<|Zc e9 Zz) (aI (i0 w) (aI l1.run hN)) Zk
theorem Dd7{g38 o38:Nat}(hs:Sl 90 a l df)(e7:Lk l 7 (.slice sd sn sc))(e9:Lk l 9 (ii (k:Int)))(i0:Ix 73 (.slice sd sn sc) (ii (k:Int)) (pF g38 o38))(s1:So 4 g38 o38 (.bool true) w [.bool true])
  (hN: ∀a',Sl 90 a' (A6 [36,37,38] l) df->N a' (w.setCells g38 o38 [.bool true])):Rg N Q a w (G6 7):=
 reg [] [36,37,38] [.val (pF g38 o38),.sto] hs (Zc e7<|Zc e9 Zz) (aI (i0 w) (aI s1 hN)) Zk
theorem Dd8(hs:Sl 90 a l df)
  (hN: ∀a',Sl 90 a' ((10,ii 0)::A6 [10] l) df->N a' w):Rg N Q a w (G6 8):=
 Zg [10] hs hN
theorem Bd0{g45 o45:Nat}{b48:Bool}(hs:Sl 90 a l df)(e10:Lk l 10 (ii (i:Int)))(e0:Lk l 0 (pT gp))(e9:Lk l 9 (ii (k:Int)))(l0:Lp 31 (pF gp 1) (.slice td tn tc) w)(i1:Ix 31 (.slice td tn tc) (ii (k:Int)) (pF g45 o45))(l2:Lp 24 (pF g45 o45) (.slice rd rn rc) w)(h3:decide ((i:Int)<(rn:Int))=b48)
  (hN: ∀a',Sl 90 a' ((48,.bool b48)::A6 (List.range' 39 10) l) df->N a' w):Rg N Q a w (G6 9):=
 reg [48] (List.range' 39 10) [.val (.slice td tn tc),.val (pF g45 o45),.val (.slice rd rn rc),.bit b48] hs (Zc e10<|Zc e0<|Zc e9 Zz) (aI l0.run (aI (i1 w) (aI l2.run (aI h3 hN)))) Zk
theorem Bt3(hs:Sl 90 a l df)(e10:Lk l 10 (ii (i:Int)))(h0: -9223372036854775808<=(i:Int)+1/\(i:Int)+1<=9223372036854775807)
  (hN: ∀a',Sl 90 a' ((10,ii ((i:Int)+1))::A6 [10,49,50] l) df->N a' w):Rg N Q a w (G6 10):=
 reg [10] [10,49,50] [.ari] hs (Zc e10 Zz) (aI h0 hN) Zk
theorem Bt4{g57 o57 g60 o60:Nat}{C0:World->Prop}(hs:Sl 90 a l df)(e0:Lk l 0 (pT gp))(e9:Lk l 9 (ii (k:Int)))(e10:Lk l 10 (ii (i:Int)))(l0:Lp 31 (pF gp 1) (.slice td tn tc) w)(i1:Ix 31 (.slice td tn tc) (ii (k:Int)) (pF g57 o57))(l2:Lp 24 (pF g57 o57) (.slice rd rn rc) w)(i3:Ix 24 (.slice rd rn rc) (ii (i:Int)) (pF g60 o60))(l4:Lp 3 (pF g60 o60) (ii x) w)(k5:Cl 32 #[pT gp,ii x] w (ii j) C0)
  (hN: ∀a' (w1:World),C0 w1->Sl 90 a' ((11,ii j)::A6 (11::List.range' 51 12) l) df->N a' w1):Rg N Q a w (G6 11):=
 reg [11] (11::List.range' 51 12) [.val (.slice td tn tc),.val (pF g57 o57),.val (.slice rd rn rc),.val (pF g60 o60),.val (ii x),.ret (ii j) C0] hs (Zc e0<|Zc e9<|Zc e10 Zz) (aI l0.run (aI (i1 w) (aI l2.run (aI (i3 w) (aI l4.run (aI k5 (fun(w1:World) (hc0:C0 w1)a'=>hN a' w1 hc0))))))) Zk
theorem Yc{b64:Bool}(hs:Sl 90 a l df)(e11:Lk l 11 (ii j))(h0:decide ((0:Int)<=j)=b64)
  (hN: ∀a',Sl 90 a' ((64,.bool b64)::A6 [63,64] l) df->N a' w):Rg N Q a w (G6 12):=
 reg [64] [63,64] [.bit b64] hs (Zc e11 Zz) (aI h0 hN) Zk
theorem Bt5(hs:Sl 90 a l df)(e8:Lk l 8 (.slice wd wn wc))(e11:Lk l 11 (ii j))(k0: ∀ty,∃v w',(Builtin.append_ #[24,24] ty #[.slice wd wn wc,.slice (some ⟨w.heap.size,0,none⟩) 1 1]).run Tryz.prog (w.alloc (.cells #[ii j] 3))=.ok v.v w'/\C0 (w.alloc (.cells #[ii j] 3)) v w')
  (hN: ∀a' (x68:S3) (w1:World),C0 (w.alloc (.cells #[ii j] 3)) x68 w1->Sl 90 a' ((8,.slice x68.d x68.n x68.c)::A6 [8,65,66,67,68] l) df->N a' w1):Rg N Q a w (G6 13):=
 reg [8] [8,65,66,67,68] [.raw,.apxw S3 S3.v C0] hs (Zc e8<|Zc e11 Zz) (aI k0 (fun(x68:S3) (w1:World) (hc0:C0 (w.alloc (.cells #[ii j] 3)) x68 w1)a'=>hN a' x68 w1 hc0)) Zk
theorem Bt6(hs:Sl 90 a l df)
  (hN: ∀a',Sl 90 a' ((12,.slice none 0 0)::A6 [12] l) df->N a' w):Rg N Q a w (G6 14):=
 Zg [12] hs hN
theorem Bt7(hs:Sl 90 a l df)
  (hN: ∀a',Sl 90 a' ((13,ii 0)::A6 [13] l) df->N a' w):Rg N Q a w (G6 15):=
 Zg [13] hs hN
theorem Yd{b72:Bool}(hs:Sl 90 a l df)(e13:Lk l 13 (ii (i:Int)))(e7:Lk l 7 (.slice sd sn sc))(h0:decide ((i:Int)<(sn:Int))=b72)
  (hN: ∀a',Sl 90 a' ((72,.bool b72)::A6 [69,70,71,72] l) df->N a' w):Rg N Q a w (G6 16):=
 reg [72] [69,70,71,72] [.bit b72] hs (Zc e13<|Zc e7 Zz) (aI h0 hN) Zk
theorem Ye(hs:Sl 90 a l df)(e13:Lk l 13 (ii (i:Int)))(h0: -9223372036854775808<=(i:Int)+1/\(i:Int)+1<=9223372036854775807)
  (hN: ∀a',Sl 90 a' ((13,ii ((i:Int)+1))::A6 [13,73,74] l) df->N a' w):Rg N Q a w (G6 17):=
 reg [13] [13,73,74] [.ari] hs (Zc e13 Zz) (aI h0 hN) Zk
theorem Yf{g77 o77:Nat}{b78:Bool}(hs:Sl 90 a l df)(e7:Lk l 7 (.slice sd sn sc))(e13:Lk l 13 (ii (i:Int)))(i0:Ix 73 (.slice sd sn sc) (ii (i:Int)) (pF g77 o77))(l1:Lp 4 (pF g77 o77) (.bool b78) w)
  (hN: ∀a',Sl 90 a' ((78,.bool b78)::A6 [75,76,77,78] l) df->N a' w):Rg N Q a w (G6 18):=
 reg [78] [75,76,77,78] [.val (pF g77 o77),.val (.bool b78)] hs (Zc e7<|Zc e13 Zz) (aI (i0 w) (aI l1.run hN)) Zk
theorem Bt8{g85 o85:Nat}(hs:Sl 90 a l df)(e12:Lk l 12 (.slice od on oc))(e0:Lk l 0 (pT gp))(e13:Lk l 13 (ii (i:Int)))(l0:Lp 24 (pT gp) (.slice nd nn nc) w)(i1:Ix 24 (.slice nd nn nc) (ii (i:Int)) (pF g85 o85))(l2:Lp 3 (pF g85 o85) (ii x) w)(k3: ∀ty,∃v w',(Builtin.append_ #[24,24] ty #[.slice od on oc,.slice (some ⟨w.heap.size,0,none⟩) 1 1]).run Tryz.prog (w.alloc (.cells #[ii x] 3))=.ok v.v w'/\C0 (w.alloc (.cells #[ii x] 3)) v w')
  (hN: ∀a' (x88:S3) (w1:World),C0 (w.alloc (.cells #[ii x] 3)) x88 w1->Sl 90 a' ((12,.slice x88.d x88.n x88.c)::A6 (12::List.range' 79 10) l) df->N a' w1):Rg N Q a w (G6 19):=
 reg [12] (12::List.range' 79 10) [.val (.slice nd nn nc),.val (pF g85 o85),.val (ii x),.raw,.apxw S3 S3.v C0] hs (Zc e12<|Zc e0<|Zc e13 Zz) (aI l0.run (aI (i1 w) (aI l2.run (aI k3 (fun(x88:S3) (w1:World) (hc0:C0 (w.alloc (.cells #[ii x] 3)) x88 w1)a'=>hN a' x88 w1 hc0))))) Zk
theorem Bt9(hs:Sl 90 a l df)(e12:Lk l 12 (.slice od on oc))
  (hN: ∀a',Sl 90 a' ((6,.slice od on oc)::A6 [6,89] l) df->N a' w):Rg N Q a w (G6 20):=
 reg [6] [6,89] [] hs (Zc e12 Zz) hN Zk
noncomputable def G2 (n:Nat):Code:=((Tryz.f33.body.bind (D4 n)).getD .skip)
noncomputable def Bu0:Code:=(.seq (.seq (G2 15) (.cond (.tmp 61) .skip (.exit 6))) (.seq (.block 7 (.seq (G2 17) (.seq (G2 18) (.cond (.tmp 86) (G2 19) .skip)))) (G2 16)))
noncomputable def Bu1:Code:=(.seq (.seq (G2 11) (.cond (.tmp 44) .skip (.exit 4))) (.seq (.block 5 (.seq (.seq (G2 13) (.cond (.tmp 51) (.exit 5) .skip)) (.seq (G2 14) (.block 6 (.loop Bu0))))) (G2 12)))
noncomputable def Dd9:Code:=(.seq (.seq (G2 8) (.cond (.tmp 35) .skip (.exit 2))) (.seq (.block 3 (.seq (G2 10) (.block 4 (.loop Bu1)))) (G2 9)))
noncomputable def De0:Code:=(.seq (.seq (G2 3) (.cond (.tmp 20) .skip (.exit 0))) (.seq (.block 1 (G2 5)) (G2 4)))
noncomputable def Yg:Code:=(.seq (G2 0) (.seq (G2 1) (.seq (.seq (G2 2) (.block 0 (.loop De0))) (.seq (G2 6) (.seq (.seq (G2 7) (.block 2 (.loop Dd9))) (.seq (G2 20) .ret))))))
theorem Am9:Tryz.f33.body=some Yg:=by kernel_rfl
theorem De1(hs:Sl 92 a l df)
  (hN: ∀a',Sl 92 a' ((4,.slice none 0 0)::A6 [4] l) df->N a' w):Rg N Q a w (G2 0):=
 Zg [4] hs hN
theorem De2{wm16:World}(hs:Sl 92 a l df)(e0:Lk l 0 (pT gp))(l0:Lp 24 (pT gp) (.slice nd nn nc) w)(m1:(Instr.makeSlice 24 (ii (nn:Int)) (ii (nn:Int))).run Tryz.prog w=.ok (.slice (some ⟨w.heap.size,0,none⟩) nn nn) wm16)
  (hN: ∀a',Sl 92 a' ((5,.slice (some ⟨w.heap.size,0,none⟩) nn nn)::A6 (5::List.range' 11 6) l) df->N a' wm16):Rg N Q a w (G2 1):=
 reg [5] (5::List.range' 11 6) [.val (.slice nd nn nc),.vw (.slice (some ⟨w.heap.size,0,none⟩) nn nn) wm16] hs (Zc e0 Zz) (aI l0.run (aI m1 hN)) Zk
theorem De3(hs:Sl 92 a l df)
  (hN: ∀a',Sl 92 a' ((6,ii 0)::A6 [6] l) df->N a' w):Rg N Q a w (G2 2):=
 Zg [6] hs hN
theorem Bd1(hs:Sl 92 a l df)(e6:Lk l 6 (ii (i:Int)))(e5:Lk l 5 (.slice od on oc))(h0:decide ((i:Int)<(on:Int))=b20)
  (hN: ∀a',Sl 92 a' ((20,.bool b20)::A6 [17,18,19,20] l) df->N a' w):Rg N Q a w (G2 3):=
 reg [20] [17,18,19,20] [.bit b20] hs (Zc e6<|Zc e5 Zz) (aI h0 hN) Zk
theorem De4(hs:Sl 92 a l df)(e6:Lk l 6 (ii (i:Int)))(h0: -9223372036854775808<=(i:Int)+1/\(i:Int)+1<=9223372036854775807)
  (hN: ∀a',Sl 92 a' ((6,ii ((i:Int)+1))::A6 [6,21,22] l) df->N a' w):Rg N Q a w (G2 4):=
 reg [6] [6,21,22] [.ari] hs (Zc e6 Zz) (aI h0 hN) Zk
theorem De5{g25 o25:Nat}(hs:Sl 92 a l df)(e5:Lk l 5 (.slice od on oc))(e6:Lk l 6 (ii (i:Int)))(i0:Ix 24 (.slice od on oc) (ii (i:Int)) (pF g25 o25))(s1:So 3 g25 o25 (ii (-1)) w [ii (-1)])
  (hN: ∀a',Sl 92 a' (A6 [23,24,25] l) df->N a' (w.setCells g25 o25 [ii (-1)])):Rg N Q a w (G2 5):=
 reg [] [23,24,25] [.val (pF g25 o25),.sto] hs (Zc e5<|Zc e6 Zz) (aI (i0 w) (aI s1 hN)) Zk
theorem De6{tz:Nat}(hs:Sl 92 a l df)(e5:Lk l 5 (.slice od on oc))(e1:Lk l 1 (ii (tz:Int)))(i0:Ix 24 (.slice od on oc) (ii (tz:Int)) (pF g28 o28))(s1:So 3 g28 o28 (ii 0) w [ii 0])
  (hN: ∀a',Sl 92 a' (A6 [26,27,28] l) df->N a' (w.setCells g28 o28 [ii 0])):Rg N Q a w (G2 6):=
 reg [] [26,27,28] [.val (pF g28 o28),.sto] hs (Zc e5<|Zc e1 Zz) (aI (i0 w) (aI s1 hN)) Zk
theorem De7(hs:Sl 92 a l df)
  (hN: ∀a',Sl 92 a' ((7,ii 1)::A6 [7] l) df->N a' w):Rg N Q a w (G2 7):=
 Zg [7] hs hN
theorem Bd2(hs:Sl 92 a l df)(e7:Lk l 7 (ii (st:Int)))(e0:Lk l 0 (pT gp))(l0:Lp 24 (pT gp) (.slice nd nn nc) w)(h1:decide ((st:Int)<=(nn:Int))=b35)
  (hN: ∀a',Sl 92 a' ((35,.bool b35)::A6 (List.range' 29 7) l) df->N a' w):Rg N Q a w (G2 8):=
 reg [35] (List.range' 29 7) [.val (.slice nd nn nc),.bit b35] hs (Zc e7<|Zc e0 Zz) (aI l0.run (aI h1 hN)) Zk
theorem De8(hs:Sl 92 a l df)(e7:Lk l 7 (ii (st:Int)))(h0: -9223372036854775808<=(st:Int)+1/\(st:Int)+1<=9223372036854775807)
  (hN: ∀a',Sl 92 a' ((7,ii ((st:Int)+1))::A6 [7,36,37] l) df->N a' w):Rg N Q a w (G2 9):=
 reg [7] [7,36,37] [.ari] hs (Zc e7 Zz) (aI h0 hN) Zk
theorem Bu2(hs:Sl 92 a l df)
  (hN: ∀a',Sl 92 a' ((8,ii 0)::A6 [8] l) df->N a' w):Rg N Q a w (G2 10):=
 Zg [8] hs hN
theorem Yh{b44:Bool}(hs:Sl 92 a l df)(e8:Lk l 8 (ii (i:Int)))(e0:Lk l 0 (pT gp))(l0:Lp 24 (pT gp) (.slice nd nn nc) w)(h1:decide ((i:Int)<(nn:Int))=b44)
  (hN: ∀a',Sl 92 a' ((44,.bool b44)::A6 (List.range' 38 7) l) df->N a' w):Rg N Q a w (G2 11):=
 reg [44] (List.range' 38 7) [.val (.slice nd nn nc),.bit b44] hs (Zc e8<|Zc e0 Zz) (aI l0.run (aI h1 hN)) Zk
theorem Bu3(hs:Sl 92 a l df)(e8:Lk l 8 (ii (i:Int)))(h0: -9223372036854775808<=(i:Int)+1/\(i:Int)+1<=9223372036854775807)
  (hN: ∀a',Sl 92 a' ((8,ii ((i:Int)+1))::A6 [8,45,46] l) df->N a' w):Rg N Q a w (G2 12):=
 reg [8] [8,45,46] [.ari] hs (Zc e8 Zz) (aI h0 hN) Zk
theorem Yi{g49 o49:Nat}{b51:Bool}(hs:Sl 92 a l df)(e5:Lk l 5 (.slice od on oc))(e8:Lk l 8 (ii (i:Int)))(i0:Ix 24 (.slice od on oc) (ii (i:Int)) (pF g49 o49))(l1:Lp 3 (pF g49 o49) (ii x) w)(h2:decide ((0:Int)<=x)=b51)
  (hN: ∀a',Sl 92 a' ((51,.bool b51)::A6 [47,48,49,50,51] l) df->N a' w):Rg N Q a w (G2 13):=
 reg [51] [47,48,49,50,51] [.val (pF g49 o49),.val (ii x),.bit b51] hs (Zc e5<|Zc e8 Zz) (aI (i0 w) (aI l1.run (aI h2 hN))) Zk
theorem Bu4(hs:Sl 92 a l df)
  (hN: ∀a',Sl 92 a' ((9,ii 0)::A6 [9] l) df->N a' w):Rg N Q a w (G2 14):=
 Zg [9] hs hN
theorem Yj{g58 o58:Nat}{b61:Bool}(hs:Sl 92 a l df)(e9:Lk l 9 (ii (k:Int)))(e0:Lk l 0 (pT gp))(e8:Lk l 8 (ii (i:Int)))(l0:Lp 31 (pF gp 1) (.slice td tn tc) w)(i1:Ix 31 (.slice td tn tc) (ii (i:Int)) (pF g58 o58))(l2:Lp 24 (pF g58 o58) (.slice rd rn rc) w)(h3:decide ((k:Int)<(rn:Int))=b61)
  (hN: ∀a',Sl 92 a' ((61,.bool b61)::A6 (List.range' 52 10) l) df->N a' w):Rg N Q a w (G2 15):=
 reg [61] (List.range' 52 10) [.val (.slice td tn tc),.val (pF g58 o58),.val (.slice rd rn rc),.bit b61] hs (Zc e9<|Zc e0<|Zc e8 Zz) (aI l0.run (aI (i1 w) (aI l2.run (aI h3 hN)))) Zk
theorem Bu5(hs:Sl 92 a l df)(e9:Lk l 9 (ii (k:Int)))(h0: -9223372036854775808<=(k:Int)+1/\(k:Int)+1<=9223372036854775807)
  (hN: ∀a',Sl 92 a' ((9,ii ((k:Int)+1))::A6 [9,62,63] l) df->N a' w):Rg N Q a w (G2 16):=
 reg [9] [9,62,63] [.ari] hs (Zc e9 Zz) (aI h0 hN) Zk
theorem Bu6{g70 o70 g73 o73:Nat}{C0:World->Prop}(hs:Sl 92 a l df)(e0:Lk l 0 (pT gp))(e8:Lk l 8 (ii (i:Int)))(e9:Lk l 9 (ii (k:Int)))(l0:Lp 31 (pF gp 1) (.slice td tn tc) w)(i1:Ix 31 (.slice td tn tc) (ii (i:Int)) (pF g70 o70))(l2:Lp 24 (pF g70 o70) (.slice rd rn rc) w)(i3:Ix 24 (.slice rd rn rc) (ii (k:Int)) (pF g73 o73))(l4:Lp 3 (pF g73 o73) (ii x) w)(k5:Cl 32 #[pT gp,ii x] w (ii n) C0)
  (hN: ∀a' (w1:World),C0 w1->Sl 92 a' ((10,ii n)::A6 (10::List.range' 64 12) l) df->N a' w1):Rg N Q a w (G2 17):=
 reg [10] (10::List.range' 64 12) [.val (.slice td tn tc),.val (pF g70 o70),.val (.slice rd rn rc),.val (pF g73 o73),.val (ii x),.ret (ii n) C0] hs (Zc e0<|Zc e8<|Zc e9 Zz) (aI l0.run (aI (i1 w) (aI l2.run (aI (i3 w) (aI l4.run (aI k5 (fun(w1:World) (hc0:C0 w1)a'=>hN a' w1 hc0))))))) Zk
theorem Kr{g81 o81:Nat}{b85:Bool}(hs:Sl 92 a l df)(e10:Lk l 10 (ii n))(e5:Lk l 5 (.slice od on oc))(e7:Lk l 7 (ii (st:Int)))(h0:decide ((0:Int)<=n)=true)(i1:Ix 24 (.slice od on oc) (ii n) (pF g81 o81))(l2:Lp 3 (pF g81 o81) (ii x) w)(h3: -9223372036854775808<=(st:Int)-1/\(st:Int)-1<=9223372036854775807)(h4:decide (x=((st:Int)-1))=b85)
  (hN: ∀a',Sl 92 a' ((86,.bool b85)::A6 (List.range' 76 11) l) df->N a' w):Rg N Q a w (G2 18):=
 reg [86] (List.range' 76 11) [.bit true,.val (pF g81 o81),.val (ii x),.ari,.bit b85] hs (Zc e10<|Zc e5<|Zc e7 Zz) (aI h0 (aI (i1 w) (aI l2.run (aI h3 (aI h4 hN))))) Zk
theorem Yk(hs:Sl 92 a l df)(e10:Lk l 10 (ii n))(h0:decide ((0:Int)<=n)=false)
  (hN: ∀a',Sl 92 a' ((86,.bool false)::A6 (List.range' 76 11) l) df->N a' w):Rg N Q a w (G2 18):=
 reg [86] (List.range' 76 11) [.bit false] hs (Zc e10 Zz) (aI h0 hN) Zk
theorem Bu7{g90 o90:Nat}(hs:Sl 92 a l df)(e5:Lk l 5 (.slice od on oc))(e8:Lk l 8 (ii (i:Int)))(e7:Lk l 7 (ii (st:Int)))(i0:Ix 24 (.slice od on oc) (ii (i:Int)) (pF g90 o90))(s1:So 3 g90 o90 (ii (st:Int)) w [ii (st:Int)])
  (hN: ∀a',Sl 92 a' (A6 [87,88,89,90] l) df->N a' (w.setCells g90 o90 [ii (st:Int)])):Rg N Q a w (G2 19):=
 reg [] [87,88,89,90] [.val (pF g90 o90),.sto] hs (Zc e5<|Zc e8<|Zc e7 Zz) (aI (i0 w) (aI s1 hN)) Zk
theorem Bu8(hs:Sl 92 a l df)(e5:Lk l 5 (.slice od on oc))
  (hN: ∀a',Sl 92 a' ((4,.slice od on oc)::A6 [4,91] l) df->N a' w):Rg N Q a w (G2 20):=
 reg [4] [4,91] [] hs (Zc e5 Zz) hN Zk
noncomputable def M4 (n:Nat):Code:=((Tryz.f34.body.bind (D4 n)).getD .skip)
noncomputable def De9:Code:=(.seq (.seq (M4 3) (.cond (.tmp 13) .skip (.exit 0))) (.seq (.block 1 (.seq (M4 5) (.seq (.seq (M4 6) (.cond (.tmp 24) (.exit 1) .skip)) (.seq (M4 7) (.cond (.tmp 65) (M4 8) .skip))))) (M4 4)))
noncomputable def Yl:Code:=(.seq (M4 0) (.seq (M4 1) (.seq (.seq (M4 2) (.block 0 (.loop De9))) (.seq (M4 9) .ret))))
theorem An0:Tryz.f34.body=some Yl:=by kernel_rfl
theorem Df0(hs:Sl 68 a l df)
  (hN: ∀a',Sl 68 a' ((6,ii 0)::A6 [6] l) df->N a' w):Rg N Q a w (M4 0):=
 Zg [6] hs hN
theorem Df1(hs:Sl 68 a l df)
  (hN: ∀a',Sl 68 a' ((7,ii (-1))::A6 [7] l) df->N a' w):Rg N Q a w (M4 1):=
 Zg [7] hs hN
theorem Df2(hs:Sl 68 a l df)
  (hN: ∀a',Sl 68 a' ((8,ii 0)::A6 [8] l) df->N a' w):Rg N Q a w (M4 2):=
 Zg [8] hs hN
theorem Bd3{b13:Bool}(hs:Sl 68 a l df)(e8:Lk l 8 (ii (i:Int)))(e1:Lk l 1 (.slice ld ln lc))(h0:decide ((i:Int)<(ln:Int))=b13)
  (hN: ∀a',Sl 68 a' ((13,.bool b13)::A6 [10,11,12,13] l) df->N a' w):Rg N Q a w (M4 3):=
 reg [13] [10,11,12,13] [.bit b13] hs (Zc e8<|Zc e1 Zz) (aI h0 hN) Zk
theorem Df3(hs:Sl 68 a l df)(e8:Lk l 8 (ii (i:Int)))(h0: -9223372036854775808<=(i:Int)+1/\(i:Int)+1<=9223372036854775807)
  (hN: ∀a',Sl 68 a' ((8,ii ((i:Int)+1))::A6 [8,14,15] l) df->N a' w):Rg N Q a w (M4 4):=
 reg [8] [8,14,15] [.ari] hs (Zc e8 Zz) (aI h0 hN) Zk
theorem Df4{g18 o18:Nat}(hs:Sl 68 a l df)(e1:Lk l 1 (.slice ld ln lc))(e8:Lk l 8 (ii (i:Int)))(i0:Ix 24 (.slice ld ln lc) (ii (i:Int)) (pF g18 o18))(l1:Lp 3 (pF g18 o18) (ii (k:Int)) w)
  (hN: ∀a',Sl 68 a' ((9,ii (k:Int))::A6 [9,16,17,18,19] l) df->N a' w):Rg N Q a w (M4 5):=
 reg [9] [9,16,17,18,19] [.val (pF g18 o18),.val (ii (k:Int))] hs (Zc e1<|Zc e8 Zz) (aI (i0 w) (aI l1.run hN)) Zk
theorem Bd4{g22 o22:Nat}{b24:Bool}(hs:Sl 68 a l df)(e2:Lk l 2 (.slice fd fn fc))(e9:Lk l 9 (ii (k:Int)))(i0:Ix 24 (.slice fd fn fc) (ii (k:Int)) (pF g22 o22))(l1:Lp 3 (pF g22 o22) (ii x) w)(h2:decide (x<0)=b24)
  (hN: ∀a',Sl 68 a' ((24,.bool b24)::A6 [20,21,22,23,24] l) df->N a' w):Rg N Q a w (M4 6):=
 reg [24] [20,21,22,23,24] [.val (pF g22 o22),.val (ii x),.bit b24] hs (Zc e2<|Zc e9 Zz) (aI (i0 w) (aI l1.run (aI h2 hN))) Zk
theorem An1(hs:Sl 68 a l df)(e7:Lk l 7 (ii o))(h0:decide (o<0)=true)
  (hN: ∀a' mm,Sl 68 a' ((65,.bool true)::A6 (List.range' 25 41) l) df->N a' (w.drewN mm)):Rg N Q a w (M4 7):=
 Ao [65] (List.range' 25 41) [.bit true] hs (Zc e7 Zz) (aI h0 hN) Zk
theorem Ym(hs:Sl 68 a l df)(e7:Lk l 7 (ii o))(e2:Lk l 2 (.slice fd fn fc))(e9:Lk l 9 (ii (k:Int)))(h0:decide (o<0)=false)(i1:Ix 24 (.slice fd fn fc) (ii (k:Int)) (pF g30 o30))(l2:Lp 3 (pF g30 o30) (ii x) w)(i3:Ix 24 (.slice fd fn fc) (ii o) (pF g34 o34))(l4:Lp 3 (pF g34 o34) (ii y) w)(h5:decide (x<y)=true)
  (hN: ∀a' mm,Sl 68 a' ((65,.bool true)::A6 (List.range' 25 41) l) df->N a' (w.drewN mm)):Rg N Q a w (M4 7):=
 Ao [65] (List.range' 25 41) [.bit false,.val (pF g30 o30),.val (ii x),.val (pF g34 o34),.val (ii y),.bit true] hs (Zc e7<|Zc e2<|Zc e9 Zz) (aI h0 (aI i1 (aI l2 (aI i3 (aI l4 (aI h5 hN)))))) Zk
theorem Fy{u v:Int}{g54 o54 g61 o61:Nat}{b63:Bool}(hs:Sl 68 a l df)(e7:Lk l 7 (ii o))(e2:Lk l 2 (.slice fd fn fc))(e9:Lk l 9 (ii (k:Int)))(e0:Lk l 0 (pT gp))(h0:decide (o<0)=false)(i1:Ix 24 (.slice fd fn fc) (ii (k:Int)) (pF g30 o30))(l2:Lp 3 (pF g30 o30) (ii x) w)(i3:Ix 24 (.slice fd fn fc) (ii o) (pF g34 o34))(l4:Lp 3 (pF g34 o34) (ii y) w)(h5:decide (x<y)=false)(h6:decide (x=y)=true)(l7:Lp 24 (pT gp) (.slice nd nn nc) w)(i8:Ix 24 (.slice nd nn nc) (ii (k:Int)) (pF g54 o54))(l9:Lp 3 (pF g54 o54) (ii u) w)(i10:Ix 24 (.slice nd nn nc) (ii o) (pF g61 o61))(l11:Lp 3 (pF g61 o61) (ii v) w)(h12:decide (u<v)=b63)
  (hN: ∀a' mm,Sl 68 a' ((65,.bool b63)::A6 (List.range' 25 41) l) df->N a' (w.drewN mm)):Rg N Q a w (M4 7):=
 Ao [65] (List.range' 25 41) [.bit false,.val (pF g30 o30),.val (ii x),.val (pF g34 o34),.val (ii y),.bit false,.val (pF g30 o30),.val (ii x),.val (pF g34 o34),.val (ii y),.bit true,.val (.slice nd nn nc),.val (pF g54 o54),.val (ii u),.val (.slice nd nn nc),.val (pF g61 o61),.val (ii v),.bit b63] hs (Zc e7<|Zc e2<|Zc e9<|Zc e0 Zz) (aI h0 (aI i1 (aI l2 (aI i3 (aI l4 (aI h5 (aI i1 (aI l2 (aI i3 (aI l4 (aI h6 (aI l7 (aI i8 (aI l9 (aI l7 (aI i10 (aI l11 (aI h12 hN)))))))))))))))))) Zk
theorem Rk(hs:Sl 68 a l df)(e7:Lk l 7 (ii o))(e2:Lk l 2 (.slice fd fn fc))(e9:Lk l 9 (ii (k:Int)))(h0:decide (o<0)=false)(i1:Ix 24 (.slice fd fn fc) (ii (k:Int)) (pF g30 o30))(l2:Lp 3 (pF g30 o30) (ii x) w)(i3:Ix 24 (.slice fd fn fc) (ii o) (pF g34 o34))(l4:Lp 3 (pF g34 o34) (ii y) w)(h5:decide (x<y)=false)(h6:decide (x=y)=false)
  (hN: ∀a' mm,Sl 68 a' ((65,.bool false)::A6 (List.range' 25 41) l) df->N a' (w.drewN mm)):Rg N Q a w (M4 7):=
 Ao [65] (List.range' 25 41) [.bit false,.val (pF g30 o30),.val (ii x),.val (pF g34 o34),.val (ii y),.bit false,.val (pF g30 o30),.val (ii x),.val (pF g34 o34),.val (ii y),.bit false] hs (Zc e7<|Zc e2<|Zc e9 Zz) (aI h0 (aI i1 (aI l2 (aI i3 (aI l4 (aI h5 (aI i1 (aI l2 (aI i3 (aI l4 (aI h6 hN))))))))))) Zk
theorem Df5(hs:Sl 68 a l df)(e9:Lk l 9 (ii (k:Int)))
  (hN: ∀a',Sl 68 a' ((7,ii (k:Int))::A6 [7,66] l) df->N a' w):Rg N Q a w (M4 8):=
 reg [7] [7,66] [] hs (Zc e9 Zz) hN Zk
theorem Df6(hs:Sl 68 a l df)(e7:Lk l 7 (ii o))
  (hN: ∀a',Sl 68 a' ((6,ii o)::A6 [6,67] l) df->N a' w):Rg N Q a w (M4 9):=
 reg [6] [6,67] [] hs (Zc e7 Zz) hN Zk
noncomputable def H5 (n:Nat):Code:=((Tryz.f15.body.bind (D4 n)).getD .skip)
noncomputable def Bu9:Code:=(.seq (.seq (H5 13) (.cond (.tmp 56) .skip (.exit 2))) (.seq (.block 3 (.seq (H5 15) (.seq (H5 16) (.cond (.tmp 84) (H5 17) .skip)))) (H5 14)))
noncomputable def Df7:Code:=(.seq (.seq (H5 7) (.cond (.tmp 32) .skip (.exit 0))) (.block 1 (.seq (H5 8) (.seq (.seq (H5 9) (.cond (.tmp 45) (.seq (H5 10) .ret) .skip)) (.seq (H5 11) (.seq (.seq (H5 12) (.block 2 (.loop Bu9))) (H5 18)))))))
noncomputable def Yn:Code:=(.seq (H5 0) (.seq (H5 1) (.seq (.seq (H5 2) (.cond (.tmp 20) (.seq (H5 3) .ret) .skip)) (.seq (H5 4) (.seq (H5 5) (.seq (H5 6) (.seq (.block 0 (.loop Df7)) (.seq (H5 19) .ret))))))))
theorem An2:Tryz.f15.body=some Yn:=by kernel_rfl
theorem Df8(hs:Sl 94 a l df)
  (hN: ∀a',Sl 94 a' ((8,.slice none 0 0)::A6 [8] l) df->N a' w):Rg N Q a w (H5 0):=
 Zg [8] hs hN
theorem Df9{tz:Int}{C0:World->Prop}(hs:Sl 94 a l df)(e0:Lk l 0 (pT gp))(e3:Lk l 3 (ii tz))(k0:Cl 32 #[pT gp,ii tz] w (ii e) C0)
  (hN: ∀a' (w1:World),C0 w1->Sl 94 a' ((9,ii e)::A6 [9,16,17,18] l) df->N a' w1):Rg N Q a w (H5 1):=
 reg [9] [9,16,17,18] [.ret (ii e) C0] hs (Zc e0<|Zc e3 Zz) (aI k0 (fun(w1:World) (hc0:C0 w1)a'=>hN a' w1 hc0)) Zk
theorem Bd5(hs:Sl 94 a l df)(e9:Lk l 9 (ii e))(h0:decide (e<0)=b20)
  (hN: ∀a',Sl 94 a' ((20,.bool b20)::A6 [19,20] l) df->N a' w):Rg N Q a w (H5 2):=
 reg [20] [19,20] [.bit b20] hs (Zc e9 Zz) (aI h0 hN) Zk
theorem Dg0(hs:Sl 94 a l df)
  (hN: ∀a',Sl 94 a' ((8,.slice none 0 0)::A6 [8] l) df->N a' w):Rg N Q a w (H5 3):=
 Zg [8] hs hN
theorem Dg1{C0:S3->World->Prop}(hs:Sl 94 a l df)(e0:Lk l 0 (pT gp))(e9:Lk l 9 (ii e))(k0:Ca 33 #[pT gp,ii e] w fun e w'=> ∃q:S3,e=.returned (.slice q.d q.n q.c)/\C0 q w')
  (hN: ∀a' (q:S3) (w1:World),C0 q w1->Sl 94 a' ((10,.slice q.d q.n q.c)::A6 [10,21,22,23] l) df->N a' w1):Rg N Q a w (H5 4):=
 reg [10] [10,21,22,23] [.ex (S3) (fun q=>.slice q.d q.n q.c) C0] hs (Zc e0<|Zc e9 Zz) (aI k0 (fun(q:S3) (w1:World) (hc0:C0 q w1)a'=>hN a' q w1 hc0)) Zk
theorem Dg2{C0:S3->World->Prop}{k:Int}{C1:World->Prop}(hs:Sl 94 a l df)(e0:Lk l 0 (pT gp))(e1:Lk l 1 (.slice ld ln lc))(e2:Lk l 2 (.slice bd bn bc))(e10:Lk l 10 (.slice fd fn fc))(k0:Ca 31 #[pT gp,.slice ld ln lc,.slice bd bn bc] w fun e w'=> ∃q:S3,e=.returned (.slice q.d q.n q.c)/\C0 q w')(k1: ∀(q:S3) (w1:World),C0 q w1->Cl 34 #[pT gp,.slice q.d q.n q.c,.slice fd fn fc] w1 (ii k) C1)
  (hN: ∀a' (q:S3) (w1:World) (w2:World),C0 q w1->C1 w2->Sl 94 a' ((11,ii k)::A6 (11::List.range' 24 7) l) df->N a' w2):Rg N Q a w (H5 5):=
 reg [11] (11::List.range' 24 7) [.ex (S3) (fun q=>.slice q.d q.n q.c) C0,.ret (ii k) C1] hs (Zc e0<|Zc e1<|Zc e2<|Zc e10 Zz) (aI k0 (fun(q:S3) (w1:World) (hc0:C0 q w1)=>(aI (k1 q w1 hc0) (fun(w2:World) (hc1:C1 w2)a'=>hN a' q w1 w2 hc0 hc1)))) Zk
theorem Dg3(hs:Sl 94 a l df)
  (hN: ∀a',Sl 94 a' ((12,.slice none 0 0)::A6 [12] l) df->N a' w):Rg N Q a w (H5 6):=
 Zg [12] hs hN
theorem Bd6{k:Int}{b32:Bool}(hs:Sl 94 a l df)(e11:Lk l 11 (ii k))(h0:decide ((0:Int)<=k)=b32)
  (hN: ∀a',Sl 94 a' ((32,.bool b32)::A6 [31,32] l) df->N a' w):Rg N Q a w (H5 7):=
 reg [32] [31,32] [.bit b32] hs (Zc e11 Zz) (aI h0 hN) Zk
theorem Dg4{g39 o39:Nat}{k:Int}(hs:Sl 94 a l df)(e12:Lk l 12 (.slice od on oc))(e0:Lk l 0 (pT gp))(e11:Lk l 11 (ii k))(l0:Lp 24 (pT gp) (.slice nd nn nc) w)(i1:Ix 24 (.slice nd nn nc) (ii k) (pF g39 o39))(l2:Lp 3 (pF g39 o39) (ii x) w)(k3: ∀ty,∃v w',(Builtin.append_ #[24,24] ty #[.slice od on oc,.slice (some ⟨w.heap.size,0,none⟩) 1 1]).run Tryz.prog (w.alloc (.cells #[ii x] 3))=.ok v.v w'/\C0 (w.alloc (.cells #[ii x] 3)) v w')
  (hN: ∀a' (x42:S3) (w1:World),C0 (w.alloc (.cells #[ii x] 3)) x42 w1->Sl 94 a' ((12,.slice x42.d x42.n x42.c)::A6 (12::List.range' 33 10) l) df->N a' w1):Rg N Q a w (H5 8):=
 reg [12] (12::List.range' 33 10) [.val (.slice nd nn nc),.val (pF g39 o39),.val (ii x),.raw,.apxw S3 S3.v C0] hs (Zc e12<|Zc e0<|Zc e11 Zz) (aI l0.run (aI (i1 w) (aI l2.run (aI k3 (fun(x42:S3) (w1:World) (hc0:C0 (w.alloc (.cells #[ii x] 3)) x42 w1)a'=>hN a' x42 w1 hc0))))) Zk
theorem Bd7{k:Int}{b45:Bool}(hs:Sl 94 a l df)(e11:Lk l 11 (ii k))(e9:Lk l 9 (ii e))(h0:decide (k=e)=b45)
  (hN: ∀a',Sl 94 a' ((45,.bool b45)::A6 [43,44,45] l) df->N a' w):Rg N Q a w (H5 9):=
 reg [45] [43,44,45] [.bit b45] hs (Zc e11<|Zc e9 Zz) (aI h0 hN) Zk
theorem Bv0(hs:Sl 94 a l df)(e12:Lk l 12 (.slice od on oc))
  (hN: ∀a',Sl 94 a' ((8,.slice od on oc)::A6 [8,46] l) df->N a' w):Rg N Q a w (H5 10):=
 reg [8] [8,46] [] hs (Zc e12 Zz) hN Zk
theorem Bv1(hs:Sl 94 a l df)
  (hN: ∀a',Sl 94 a' ((13,.slice none 0 0)::A6 [13] l) df->N a' w):Rg N Q a w (H5 11):=
 Zg [13] hs hN
theorem Bv2(hs:Sl 94 a l df)
  (hN: ∀a',Sl 94 a' ((14,ii 0)::A6 [14] l) df->N a' w):Rg N Q a w (H5 12):=
 Zg [14] hs hN
theorem Yo{g53 o53:Nat}{k:Int}{b56:Bool}(hs:Sl 94 a l df)(e14:Lk l 14 (ii (i:Int)))(e0:Lk l 0 (pT gp))(e11:Lk l 11 (ii k))(l0:Lp 31 (pF gp 1) (.slice td tn tc) w)(i1:Ix 31 (.slice td tn tc) (ii k) (pF g53 o53))(l2:Lp 24 (pF g53 o53) (.slice rd rn rc) w)(h3:decide ((i:Int)<(rn:Int))=b56)
  (hN: ∀a',Sl 94 a' ((56,.bool b56)::A6 (List.range' 47 10) l) df->N a' w):Rg N Q a w (H5 13):=
 reg [56] (List.range' 47 10) [.val (.slice td tn tc),.val (pF g53 o53),.val (.slice rd rn rc),.bit b56] hs (Zc e14<|Zc e0<|Zc e11 Zz) (aI l0.run (aI (i1 w) (aI l2.run (aI h3 hN)))) Zk
theorem Bv3(hs:Sl 94 a l df)(e14:Lk l 14 (ii (i:Int)))(h0: -9223372036854775808<=(i:Int)+1/\(i:Int)+1<=9223372036854775807)
  (hN: ∀a',Sl 94 a' ((14,ii ((i:Int)+1))::A6 [14,57,58] l) df->N a' w):Rg N Q a w (H5 14):=
 reg [14] [14,57,58] [.ari] hs (Zc e14 Zz) (aI h0 hN) Zk
theorem Bv4{g65 o65 g68 o68:Nat}{k:Int}{C0:World->Prop}(hs:Sl 94 a l df)(e0:Lk l 0 (pT gp))(e11:Lk l 11 (ii k))(e14:Lk l 14 (ii (i:Int)))(l0:Lp 31 (pF gp 1) (.slice td tn tc) w)(i1:Ix 31 (.slice td tn tc) (ii k) (pF g65 o65))(l2:Lp 24 (pF g65 o65) (.slice rd rn rc) w)(i3:Ix 24 (.slice rd rn rc) (ii (i:Int)) (pF g68 o68))(l4:Lp 3 (pF g68 o68) (ii x) w)(k5:Cl 32 #[pT gp,ii x] w (ii n) C0)
  (hN: ∀a' (w1:World),C0 w1->Sl 94 a' ((15,ii n)::A6 (15::List.range' 59 12) l) df->N a' w1):Rg N Q a w (H5 15):=
 reg [15] (15::List.range' 59 12) [.val (.slice td tn tc),.val (pF g65 o65),.val (.slice rd rn rc),.val (pF g68 o68),.val (ii x),.ret (ii n) C0] hs (Zc e0<|Zc e11<|Zc e14 Zz) (aI l0.run (aI (i1 w) (aI l2.run (aI (i3 w) (aI l4.run (aI k5 (fun(w1:World) (hc0:C0 w1)a'=>hN a' w1 hc0))))))) Zk
theorem Kt{k:Int}{g76 o76 g80 o80:Nat}{b83:Bool}(hs:Sl 94 a l df)(e15:Lk l 15 (ii n))(e10:Lk l 10 (.slice fd fn fc))(e11:Lk l 11 (ii k))(h0:decide ((0:Int)<=n)=true)(i1:Ix 24 (.slice fd fn fc) (ii n) (pF g76 o76))(l2:Lp 3 (pF g76 o76) (ii x) w)(i3:Ix 24 (.slice fd fn fc) (ii k) (pF g80 o80))(l4:Lp 3 (pF g80 o80) (ii y) w)(h5: -9223372036854775808<=y-1/\y-1<=9223372036854775807)(h6:decide (x=(y-1))=b83)
  (hN: ∀a' mm,Sl 94 a' ((84,.bool b83)::A6 (List.range' 71 14) l) df->N a' (w.drewN mm)):Rg N Q a w (H5 16):=
 Ao [84] (List.range' 71 14) [.bit true,.val (pF g76 o76),.val (ii x),.val (pF g80 o80),.val (ii y),.ari,.bit b83] hs (Zc e15<|Zc e10<|Zc e11 Zz) (aI h0 (aI i1 (aI l2 (aI i3 (aI l4 (aI h5 (aI h6 hN))))))) Zk
theorem Yp(hs:Sl 94 a l df)(e15:Lk l 15 (ii n))(h0:decide ((0:Int)<=n)=false)
  (hN: ∀a' mm,Sl 94 a' ((84,.bool false)::A6 (List.range' 71 14) l) df->N a' (w.drewN mm)):Rg N Q a w (H5 16):=
 Ao [84] (List.range' 71 14) [.bit false] hs (Zc e15 Zz) (aI h0 hN) Zk
theorem Bv5(hs:Sl 94 a l df)(e13:Lk l 13 (.slice xd xn xc))(e15:Lk l 15 (ii n))(k0: ∀ty,∃v w',(Builtin.append_ #[24,24] ty #[.slice xd xn xc,.slice (some ⟨w.heap.size,0,none⟩) 1 1]).run Tryz.prog (w.alloc (.cells #[ii n] 3))=.ok v.v w'/\C0 (w.alloc (.cells #[ii n] 3)) v w')
  (hN: ∀a' (x88:S3) (w1:World),C0 (w.alloc (.cells #[ii n] 3)) x88 w1->Sl 94 a' ((13,.slice x88.d x88.n x88.c)::A6 [13,85,86,87,88] l) df->N a' w1):Rg N Q a w (H5 17):=
 reg [13] [13,85,86,87,88] [.raw,.apxw S3 S3.v C0] hs (Zc e13<|Zc e15 Zz) (aI k0 (fun(x88:S3) (w1:World) (hc0:C0 (w.alloc (.cells #[ii n] 3)) x88 w1)a'=>hN a' x88 w1 hc0)) Zk
theorem Bv6{k:Int}{C0:World->Prop}(hs:Sl 94 a l df)(e0:Lk l 0 (pT gp))(e13:Lk l 13 (.slice xd xn xc))(e10:Lk l 10 (.slice fd fn fc))(k0:Cl 34 #[pT gp,.slice xd xn xc,.slice fd fn fc] w (ii k) C0)
  (hN: ∀a' (w1:World),C0 w1->Sl 94 a' ((11,ii k)::A6 [11,89,90,91,92] l) df->N a' w1):Rg N Q a w (H5 18):=
 reg [11] [11,89,90,91,92] [.ret (ii k) C0] hs (Zc e0<|Zc e13<|Zc e10 Zz) (aI k0 (fun(w1:World) (hc0:C0 w1)a'=>hN a' w1 hc0)) Zk
theorem Bv7(hs:Sl 94 a l df)(e12:Lk l 12 (.slice od on oc))
  (hN: ∀a',Sl 94 a' ((8,.slice od on oc)::A6 [8,93] l) df->N a' w):Rg N Q a w (H5 19):=
 reg [8] [8,93] [] hs (Zc e12 Zz) hN Zk
end Go.Proofs.YtbjegfpfmnleeaaGreatDoor
