/-
   Written by an AI agent.
-/
import Derived.Test.YtbjegfpfmnleeaaGreatDoorPk33
namespace Go.Proofs.YtbjegfpfmnleeaaGreatDoor
open Go.RowKit Go.Sort
set_option maxRecDepth 100000
variable {a:Act} {w:World} {df:List Deferred} {N:Act->World->Prop} {Q:Exit->Act->World->Prop} {l:List (Nat×Value)}
variable {C0:World->S3->World->Prop} {ac an bc bn g16 g21 g5 g55 g79 i lc ln o16 o21 o55 o79 oc on sc sn xc xn yc yn:Nat} {ad bd ld od sd xd yd:Option Addr} {d:Dt} {m:Dm} {ok:Bool} {x y:Int}
noncomputable def T2 (n:Nat):Code:=((Tryz.f7.body.bind (D4 n)).getD .skip)
noncomputable def Dg5:Code:=(.seq (.seq (T2 2) (.cond (.tmp 11) .skip (.exit 0))) (.seq (.block 1 (.seq (T2 4) (.cond (.tmp 19) (.seq (T2 5) .ret) .skip))) (T2 3)))
noncomputable def Yq:Code:=(.seq (T2 0) (.seq (.seq (T2 1) (.block 0 (.loop Dg5))) (.seq (T2 6) .ret)))
theorem An3:Tryz.f7.body=some Yq:=by kernel_rfl
theorem Dg6(hs:Sl 23 a l df)
  (hN: ∀a',Sl 23 a' ((2,.bool false)::A6 [2] l) df->N a' w):Rg N Q a w (T2 0):=
 Zg [2] hs hN
theorem Dg7(hs:Sl 23 a l df)
  (hN: ∀a',Sl 23 a' ((3,ii 0)::A6 [3] l) df->N a' w):Rg N Q a w (T2 1):=
 Zg [3] hs hN
theorem Pb{b10:Bool}(hs:Sl 23 a l df)(e3:Lk l 3 (ii (i:Int)))(e0:Lk l 0 (.slice ld ln lc))(h0:decide ((i:Int)<(ln:Int))=true)(h1:decide ((i:Int)<40)=b10)
  (hN: ∀a',Sl 23 a' ((11,.bool b10)::A6 (List.range' 4 8) l) df->N a' w):Rg N Q a w (T2 2):=
 reg [11] (List.range' 4 8) [.bit true,.bit b10] hs (Zc e3<|Zc e0 Zz) (aI h0 (aI h1 hN)) Zk
theorem An4(hs:Sl 23 a l df)(e3:Lk l 3 (ii (i:Int)))(e0:Lk l 0 (.slice ld ln lc))(h0:decide ((i:Int)<(ln:Int))=false)
  (hN: ∀a',Sl 23 a' ((11,.bool false)::A6 (List.range' 4 8) l) df->N a' w):Rg N Q a w (T2 2):=
 reg [11] (List.range' 4 8) [.bit false] hs (Zc e3<|Zc e0 Zz) (aI h0 hN) Zk
theorem Dg8(hs:Sl 23 a l df)(e3:Lk l 3 (ii (i:Int)))(h0: -9223372036854775808<=(i:Int)+1/\(i:Int)+1<=9223372036854775807)
  (hN: ∀a',Sl 23 a' ((3,ii ((i:Int)+1))::A6 [3,12,13] l) df->N a' w):Rg N Q a w (T2 3):=
 reg [3] [3,12,13] [.ari] hs (Zc e3 Zz) (aI h0 hN) Zk
theorem Bd8{n:Nat}{C0:World->Prop}{b19:Bool}(hs:Sl 23 a l df)(e0:Lk l 0 (.slice ld ln lc))(e3:Lk l 3 (ii (i:Int)))(i0:Ix 23 (.slice ld ln lc) (ii (i:Int)) (pF g16 o16))(l1:Lp 53 (pF g16 o16) (.agg (d.cs m)) w)(k2:Cl 24 #[.agg (d.cs m)] w (ii (n:Int)) C0)(h3:decide ((100:Int)<(n:Int))=b19)
  (hN: ∀a' (w1:World),C0 w1->Sl 23 a' ((19,.bool b19)::A6 [14,15,16,17,18,19] l) df->N a' w1):Rg N Q a w (T2 4):=
 reg [19] [14,15,16,17,18,19] [.val (pF g16 o16),.val (.agg (d.cs m)),.ret (ii (n:Int)) C0,.bit b19] hs (Zc e0<|Zc e3 Zz) (aI (i0 w) (aI l1.run (aI k2 (fun(w1:World) (hc0:C0 w1)=>(aI h3 (fun a'=>hN a' w1 hc0)))))) Zk
theorem Dg9(hs:Sl 23 a l df)
  (hN: ∀a',Sl 23 a' ((2,.bool false)::A6 [2] l) df->N a' w):Rg N Q a w (T2 5):=
 Zg [2] hs hN
theorem Dh0{b22:Bool}(hs:Sl 23 a l df)(e0:Lk l 0 (.slice ld ln lc))(h0:decide ((ln:Int)<=40)=b22)
  (hN: ∀a',Sl 23 a' ((2,.bool b22)::A6 [2,20,21,22] l) df->N a' w):Rg N Q a w (T2 6):=
 reg [2] [2,20,21,22] [.bit b22] hs (Zc e0 Zz) (aI h0 hN) Zk
noncomputable def N4 (n:Nat):Code:=((Tryz.f11.body.bind (D4 n)).getD .skip)
noncomputable def Dh1:Code:=(.seq (.seq (N4 3) (.cond (.tmp 9) .skip (.exit 0))) (.seq (.block 1 (.seq (N4 5) (.seq (.seq (N4 6) (.cond (.tmp 18) (N4 7) .skip)) (N4 8)))) (N4 4)))
noncomputable def Yr:Code:=(.seq (N4 0) (.seq (N4 1) (.seq (.seq (N4 2) (.block 0 (.loop Dh1))) (.seq (N4 9) (.seq (N4 10) .ret)))))
theorem An5:Tryz.f11.body=some Yr:=by kernel_rfl
theorem Dh2(hs:Sl 39 a l df)
  (hN: ∀a',Sl 39 a' ((2,.slice none 0 0)::A6 [2] l) df->N a' w):Rg N Q a w (N4 0):=
 Zg [2] hs hN
theorem Dh3(hs:Sl 39 a l df)
  (hN: ∀a',Sl 39 a' ((3,.slice none 0 0)::A6 [3] l) df->N a' w):Rg N Q a w (N4 1):=
 Zg [3] hs hN
theorem Dh4(hs:Sl 39 a l df)
  (hN: ∀a',Sl 39 a' ((4,ii 0)::A6 [4] l) df->N a' w):Rg N Q a w (N4 2):=
 Zg [4] hs hN
theorem Bd9{b9:Bool}(hs:Sl 39 a l df)(e4:Lk l 4 (ii (i:Int)))(e0:Lk l 0 (.slice ld ln lc))(h0:decide ((i:Int)<(ln:Int))=b9)
  (hN: ∀a',Sl 39 a' ((9,.bool b9)::A6 [6,7,8,9] l) df->N a' w):Rg N Q a w (N4 3):=
 reg [9] [6,7,8,9] [.bit b9] hs (Zc e4<|Zc e0 Zz) (aI h0 hN) Zk
theorem Dh5(hs:Sl 39 a l df)(e4:Lk l 4 (ii (i:Int)))(h0: -9223372036854775808<=(i:Int)+1/\(i:Int)+1<=9223372036854775807)
  (hN: ∀a',Sl 39 a' ((4,ii ((i:Int)+1))::A6 [4,10,11] l) df->N a' w):Rg N Q a w (N4 4):=
 reg [4] [4,10,11] [.ari] hs (Zc e4 Zz) (aI h0 hN) Zk
theorem Dh6{g14 o14:Nat}(hs:Sl 39 a l df)(e0:Lk l 0 (.slice ld ln lc))(e4:Lk l 4 (ii (i:Int)))(i0:Ix 23 (.slice ld ln lc) (ii (i:Int)) (pF g14 o14))(l1:Lp 53 (pF g14 o14) (.agg (d.cs m)) w)(s2:So 53 w.heap.size 0 (.agg (d.cs m)) (w.alloc (.cells zA 53)) (d.cs m).toList)
  (hN: ∀a',Sl 39 a' ((5,pT w.heap.size)::A6 [5,12,13,14,15] l) df->N a' ((w.alloc (.cells zA 53)).setCells w.heap.size 0 (d.cs m).toList)):Rg N Q a w (N4 5):=
 reg [5] [5,12,13,14,15] [.val (pF g14 o14),.val (.agg (d.cs m)),.raw,.sto] hs (Zc e0<|Zc e4 Zz) (aI (i0 w) (aI l1.run (aI s2 hN))) Zk
theorem Be0{k:Int}{b18:Bool}(hs:Sl 39 a l df)(e5:Lk l 5 (pT g5))(l0:Lp 3 (pT g5) (ii k) w)(h1:decide (k=8)=b18)
  (hN: ∀a',Sl 39 a' ((18,.bool b18)::A6 [16,17,18] l) df->N a' w):Rg N Q a w (N4 6):=
 reg [18] [16,17,18] [.val (ii k),.bit b18] hs (Zc e5 Zz) (aI l0.run (aI h1 hN)) Zk
theorem Dh7{C0:S3->World->Prop}(hs:Sl 39 a l df)(e0:Lk l 0 (.slice ld ln lc))(e4:Lk l 4 (ii (i:Int)))(e5:Lk l 5 (pT g5))(i0:Ix 23 (.slice ld ln lc) (ii (i:Int)) (pF g21 o21))(l1:Lp 23 (pF g21 (o21+10)) (.slice sd sn sc) w)(k2:Ca 11 #[.slice sd sn sc] w fun e w'=> ∃q:S3,e=.returned (.slice q.d q.n q.c)/\C0 q w')(s3: ∀(q:S3) (w1:World),C0 q w1->So 23 g5 10 (.slice q.d q.n q.c) w1 [.slice q.d q.n q.c])
  (hN: ∀a' (q:S3) (w1:World),C0 q w1->Sl 39 a' (A6 (List.range' 19 7) l) df->N a' (w1.setCells g5 10 [.slice q.d q.n q.c])):Rg N Q a w (N4 7):=
 reg [] (List.range' 19 7) [.val (pF g21 o21),.val (.slice sd sn sc),.ex (S3) (fun q=>.slice q.d q.n q.c) C0,.sto] hs (Zc e0<|Zc e4<|Zc e5 Zz) (aI (i0 w) (aI l1.run (aI k2 (fun(q:S3) (w1:World) (hc0:C0 q w1)=>(aI (s3 q w1 hc0) (fun a'=>hN a' q w1 hc0)))))) Zk
theorem Dh8(hs:Sl 39 a l df)(e3:Lk l 3 (.slice od on oc))(e5:Lk l 5 (pT g5))(l0:Lp 53 (pT g5) (.agg (d.cs m)) w)(k1: ∀ty,∃v w',(Builtin.append_ #[23,23] ty #[.slice od on oc,.slice (some ⟨w.heap.size,0,none⟩) 1 1]).run Tryz.prog (w.alloc (.cells (d.cs m) 53))=.ok v.v w'/\C0 (w.alloc (.cells (d.cs m) 53)) v w')
  (hN: ∀a' (x29:S3) (w1:World),C0 (w.alloc (.cells (d.cs m) 53)) x29 w1->Sl 39 a' ((3,.slice x29.d x29.n x29.c)::A6 [3,26,27,28,29] l) df->N a' w1):Rg N Q a w (N4 8):=
 reg [3] [3,26,27,28,29] [.val (.agg (d.cs m)),.raw,.apxw S3 S3.v C0] hs (Zc e3<|Zc e5 Zz) (aI l0.run (aI k1 (fun(x29:S3) (w1:World) (hc0:C0 (w.alloc (.cells (d.cs m) 53)) x29 w1)a'=>hN a' x29 w1 hc0))) Zk
theorem Dh9(hs:Sl 39 a l df)(e3:Lk l 3 (.slice od on oc))(k0: ∀ty,∃v w',(Builtin.append_ #[23,23] ty #[.slice od on oc,.slice (some ⟨w.heap.size,0,none⟩) 2 2]).run Tryz.prog (w.alloc (.cells #[ii 0,.string (⟨#[]⟩),ii (-71),.int .u64 0,.string (⟨#[]⟩),ii 0,ii 0,ii 0,ii 0,.slice none 0 0,.slice none 0 0,ii 0,.string (⟨#[]⟩),ii (-72),.int .u64 0,.string (⟨#[]⟩),ii 0,ii 0,ii 0,ii 0,.slice none 0 0,.slice none 0 0] 53))=.ok v.v w'/\C0 (w.alloc (.cells #[ii 0,.string (⟨#[]⟩),ii (-71),.int .u64 0,.string (⟨#[]⟩),ii 0,ii 0,ii 0,ii 0,.slice none 0 0,.slice none 0 0,ii 0,.string (⟨#[]⟩),ii (-72),.int .u64 0,.string (⟨#[]⟩),ii 0,ii 0,ii 0,ii 0,.slice none 0 0,.slice none 0 0] 53)) v w')
  (hN: ∀a' (x34:S3) (w1:World),C0 (w.alloc (.cells #[ii 0,.string (⟨#[]⟩),ii (-71),.int .u64 0,.string (⟨#[]⟩),ii 0,ii 0,ii 0,ii 0,.slice none 0 0,.slice none 0 0,ii 0,.string (⟨#[]⟩),ii (-72),.int .u64 0,.string (⟨#[]⟩),ii 0,ii 0,ii 0,ii 0,.slice none 0 0,.slice none 0 0] 53)) x34 w1->Sl 39 a' ((3,.slice x34.d x34.n x34.c)::A6 [3,30,31,32,33,34] l) df->N a' w1):Rg N Q a w (N4 9):=
 reg [3] [3,30,31,32,33,34] [.raw,.raw,.raw,.apxw S3 S3.v C0] hs (Zc e3 Zz) (aI k0 (fun(x34:S3) (w1:World) (hc0:C0 (w.alloc (.cells #[ii 0,.string (⟨#[]⟩),ii (-71),.int .u64 0,.string (⟨#[]⟩),ii 0,ii 0,ii 0,ii 0,.slice none 0 0,.slice none 0 0,ii 0,.string (⟨#[]⟩),ii (-72),.int .u64 0,.string (⟨#[]⟩),ii 0,ii 0,ii 0,ii 0,.slice none 0 0,.slice none 0 0] 53)) x34 w1)a'=>hN a' x34 w1 hc0)) Zk
theorem Bv8{d38:Option Addr}{n38 q38:Nat}(hs:Sl 39 a l df)(e3:Lk l 3 (.slice od on oc))(e0:Lk l 0 (.slice ld ln lc))(i0: ∀w,(Instr.sliceAt 23 (.slice od on oc) none (some (ii (ln:Int))) none).run Tryz.prog w=.ok (.slice d38 n38 q38) w)
  (hN: ∀a',Sl 39 a' ((2,.slice d38 n38 q38)::A6 [2,35,36,37,38] l) df->N a' w):Rg N Q a w (N4 10):=
 reg [2] [2,35,36,37,38] [.val (.slice d38 n38 q38)] hs (Zc e3<|Zc e0 Zz) (aI (i0 w) hN) Zk
noncomputable def M5 (n:Nat):Code:=((Tryz.f20.body.bind (D4 n)).getD .skip)
noncomputable def Di0:Code:=(.seq (.seq (M5 5) (.cond (.tmp 33) .skip (.exit 0))) (.seq (.block 1 (.seq (.seq (M5 7) (.cond (.tmp 89) (.seq (M5 8) .ret) .skip)) (.seq (M5 9) (.cond (.tmp 95) (.seq (M5 10) (.seq (M5 11) (.cond (.tmp 108) (.seq (M5 12) .ret) .skip))) .skip)))) (M5 6)))
noncomputable def Ys:Code:=(.seq (M5 0) (.seq (M5 1) (.seq (.seq (M5 2) (.cond (.tmp 29) (.seq (M5 3) .ret) .skip)) (.seq (.seq (M5 4) (.block 0 (.loop Di0))) (.seq (M5 13) .ret)))))
theorem An6:Tryz.f20.body=some Ys:=by kernel_rfl
theorem Di1(hs:Sl 109 a l df)
  (hN: ∀a',Sl 109 a' ((4,.bool false)::A6 [4] l) df->N a' w):Rg N Q a w (M5 0):=
 Zg [4] hs hN
theorem Di2{d12:Option Addr}{n12 q12:Nat}(hs:Sl 109 a l df)(e0:Lk l 0 (.slice ad an ac))(h0: -9223372036854775808<=(an:Int)+2/\(an:Int)+2<=9223372036854775807)(i1: ∀w,(Instr.sliceAt 23 (.slice ad an ac) none (some (ii ((an:Int)+2))) none).run Tryz.prog w=.ok (.slice d12 n12 q12) w)
  (hN: ∀a',Sl 109 a' ((5,.slice d12 n12 q12)::A6 [5,8,9,10,11,12] l) df->N a' w):Rg N Q a w (M5 1):=
 reg [5] [5,8,9,10,11,12] [.ari,.val (.slice d12 n12 q12)] hs (Zc e0 Zz) (aI h0 (aI (i1 w) hN)) Zk
theorem An7{qd:Option Addr}{qn qc g25 o25:Nat}{b28:Bool}(hs:Sl 109 a l df)(e5:Lk l 5 (.slice qd qn qc))(e1:Lk l 1 (.slice ld ln lc))(i0:Ix 23 (.slice qd qn qc) (ii (ln:Int)) (pF g16 o16))(l1:Lp 3 (pF g16 (o16+2)) (ii x) w)(h2:decide (x≠(-71))=false)(h3: -9223372036854775808<=(ln:Int)+1/\(ln:Int)+1<=9223372036854775807)(i4:Ix 23 (.slice qd qn qc) (ii ((ln:Int)+1)) (pF g25 o25))(l5:Lp 3 (pF g25 (o25+2)) (ii y) w)(h6:decide (y≠(-72))=b28)
  (hN: ∀a',Sl 109 a' ((29,.bool b28)::A6 (List.range' 13 17) l) df->N a' w):Rg N Q a w (M5 2):=
 reg [29] (List.range' 13 17) [.val (pF g16 o16),.val (ii x),.bit false,.ari,.val (pF g25 o25),.val (ii y),.bit b28] hs (Zc e5<|Zc e1 Zz) (aI (i0 w) (aI l1.run (aI h2 (aI h3 (aI (i4 w) (aI l5.run (aI h6 hN))))))) Zk
theorem Di3(hs:Sl 109 a l df)
  (hN: ∀a',Sl 109 a' ((6,ii 0)::A6 [6] l) df->N a' w):Rg N Q a w (M5 4):=
 Zg [6] hs hN
theorem Be1{b33:Bool}(hs:Sl 109 a l df)(e6:Lk l 6 (ii (i:Int)))(e1:Lk l 1 (.slice ld ln lc))(h0:decide ((i:Int)<(ln:Int))=b33)
  (hN: ∀a',Sl 109 a' ((33,.bool b33)::A6 [30,31,32,33] l) df->N a' w):Rg N Q a w (M5 5):=
 reg [33] [30,31,32,33] [.bit b33] hs (Zc e6<|Zc e1 Zz) (aI h0 hN) Zk
theorem Di4(hs:Sl 109 a l df)(e6:Lk l 6 (ii (i:Int)))(h0: -9223372036854775808<=(i:Int)+1/\(i:Int)+1<=9223372036854775807)
  (hN: ∀a',Sl 109 a' ((6,ii ((i:Int)+1))::A6 [6,34,35] l) df->N a' w):Rg N Q a w (M5 6):=
 reg [6] [6,34,35] [.ari] hs (Zc e6 Zz) (aI h0 hN) Zk
theorem Be2{g92 o92:Nat}{b95:Bool}(hs:Sl 109 a l df)(e1:Lk l 1 (.slice ld ln lc))(e6:Lk l 6 (ii (i:Int)))(i0:Ix 23 (.slice ld ln lc) (ii (i:Int)) (pF g92 o92))(l1:Lp 3 (pF g92 (o92+0)) (ii x) w)(h2:decide (x=8)=b95)
  (hN: ∀a',Sl 109 a' ((95,.bool b95)::A6 [90,91,92,93,94,95] l) df->N a' w):Rg N Q a w (M5 9):=
 reg [95] [90,91,92,93,94,95] [.val (pF g92 o92),.val (ii x),.bit b95] hs (Zc e1<|Zc e6 Zz) (aI (i0 w) (aI l1.run (aI h2 hN))) Zk
theorem Bv9{td:Option Addr}{g98 o98 g103 o103 tn tc:Nat}(hs:Sl 109 a l df)(e0:Lk l 0 (.slice ad an ac))(e6:Lk l 6 (ii (i:Int)))(e1:Lk l 1 (.slice ld ln lc))(i0:Ix 23 (.slice ad an ac) (ii (i:Int)) (pF g98 o98))(l1:Lp 23 (pF g98 (o98+10)) (.slice sd sn sc) w)(i2:Ix 23 (.slice ld ln lc) (ii (i:Int)) (pF g103 o103))(l3:Lp 23 (pF g103 (o103+10)) (.slice td tn tc) w)(k4: ∀mm,Ca 20 #[.slice sd sn sc,.slice td tn tc] (w.drewN mm) fun e w'=>e=.returned (.bool ok)/\∃m',w'=w.drewN m')
  (hN: ∀a' mm,Sl 109 a' ((7,.bool ok)::A6 (7::List.range' 96 11) l) df->N a' (w.drewN mm)):Rg N Q a w (M5 10):=
 Ao [7] (7::List.range' 96 11) [.val (pF g98 o98),.val (.slice sd sn sc),.val (pF g103 o103),.val (.slice td tn tc),.val (.bool ok)] hs (Zc e0<|Zc e6<|Zc e1 Zz) (aI i0 (aI l1 (aI i2 (aI l3 (aI k4 hN))))) Zk
theorem Bw0(hs:Sl 109 a l df)(e7:Lk l 7 (.bool ok))
  (hN: ∀a',Sl 109 a' ((108,.bool (!ok))::A6 [107,108] l) df->N a' w):Rg N Q a w (M5 11):=
 reg [108] [107,108] [] hs (Zc e7 Zz) hN Zk
theorem Bw1(hs:Sl 109 a l df)
  (hN: ∀a',Sl 109 a' ((4,.bool true)::A6 [4] l) df->N a' w):Rg N Q a w (M5 13):=
 Zg [4] hs hN
noncomputable def E9 (n:Nat):Code:=((Tryz.f17.body.bind (D4 n)).getD .skip)
noncomputable def Di5:Code:=(.seq (.seq (E9 25) (.cond (.tmp 74) .skip (.exit 10))) (.seq (.block 11 (.seq (E9 27) (.cond (.tmp 94) (.seq (E9 28) .ret) .skip))) (E9 26)))
noncomputable def Di6:Code:=(.seq (.seq (E9 20) (.cond (.tmp 50) .skip (.exit 8))) (.seq (.block 9 (.seq (E9 22) (.cond (.tmp 70) (.seq (E9 23) .ret) .skip))) (E9 21)))
noncomputable def Di7:Code:=(.seq (.seq (E9 16) (.cond (.tmp 41) .skip (.exit 6))) (.seq (.block 7 (E9 18)) (E9 17)))
noncomputable def Di8:Code:=(.seq (.seq (E9 12) (.cond (.tmp 34) .skip (.exit 4))) (.seq (.block 5 (E9 14)) (E9 13)))
noncomputable def Di9:Code:=(.seq (.seq (E9 6) (.cond (.tmp 25) .skip (.exit 2))) (.seq (.block 3 (E9 8)) (E9 7)))
noncomputable def Dj0:Code:=(.seq (.seq (E9 2) (.cond (.tmp 16) .skip (.exit 0))) (.seq (.block 1 (E9 4)) (E9 3)))
noncomputable def Yt:Code:=(.seq (E9 0) (.seq (.seq (E9 1) (.block 0 (.loop Dj0))) (.seq (.seq (E9 5) (.block 2 (.loop Di9))) (.seq (E9 9) (.seq (E9 10) (.seq (.seq (E9 11) (.block 4 (.loop Di8))) (.seq (.seq (E9 15) (.block 6 (.loop Di7))) (.seq (.seq (E9 19) (.block 8 (.loop Di6))) (.seq (.seq (E9 24) (.block 10 (.loop Di5))) (.seq (E9 29) .ret))))))))))
theorem An8:Tryz.f17.body=some Yt:=by kernel_rfl
theorem Dj1(hs:Sl 95 a l df)
  (hN: ∀a',Sl 95 a' ((4,.bool false)::A6 [4] l) df->N a' w):Rg N Q a w (E9 0):=
 Zg [4] hs hN
theorem Dj2(hs:Sl 95 a l df)
  (hN: ∀a',Sl 95 a' ((5,ii 0)::A6 [5] l) df->N a' w):Rg N Q a w (E9 1):=
 Zg [5] hs hN
theorem Be3{b16:Bool}(hs:Sl 95 a l df)(e5:Lk l 5 (ii (i:Int)))(e0:Lk l 0 (.slice ad an ac))(h0:decide ((i:Int)<(an:Int))=b16)
  (hN: ∀a',Sl 95 a' ((16,.bool b16)::A6 [13,14,15,16] l) df->N a' w):Rg N Q a w (E9 2):=
 reg [16] [13,14,15,16] [.bit b16] hs (Zc e5<|Zc e0 Zz) (aI h0 hN) Zk
theorem Dj3(hs:Sl 95 a l df)(e5:Lk l 5 (ii (i:Int)))(h0: -9223372036854775808<=(i:Int)+1/\(i:Int)+1<=9223372036854775807)
  (hN: ∀a',Sl 95 a' ((5,ii ((i:Int)+1))::A6 [5,17,18] l) df->N a' w):Rg N Q a w (E9 3):=
 reg [5] [5,17,18] [.ari] hs (Zc e5 Zz) (aI h0 hN) Zk
theorem Dj4(hs:Sl 95 a l df)(e0:Lk l 0 (.slice ad an ac))(e5:Lk l 5 (ii (i:Int)))(i0:Ix 24 (.slice ad an ac) (ii (i:Int)) (pF g21 o21))(s1:So 3 g21 o21 (ii (-1)) w [ii (-1)])
  (hN: ∀a',Sl 95 a' (A6 [19,20,21] l) df->N a' (w.setCells g21 o21 [ii (-1)])):Rg N Q a w (E9 4):=
 reg [] [19,20,21] [.val (pF g21 o21),.sto] hs (Zc e0<|Zc e5 Zz) (aI (i0 w) (aI s1 hN)) Zk
theorem Dj5(hs:Sl 95 a l df)
  (hN: ∀a',Sl 95 a' ((6,ii 0)::A6 [6] l) df->N a' w):Rg N Q a w (E9 5):=
 Zg [6] hs hN
theorem Be4{b25:Bool}(hs:Sl 95 a l df)(e6:Lk l 6 (ii (i:Int)))(e1:Lk l 1 (.slice bd bn bc))(h0:decide ((i:Int)<(bn:Int))=b25)
  (hN: ∀a',Sl 95 a' ((25,.bool b25)::A6 [22,23,24,25] l) df->N a' w):Rg N Q a w (E9 6):=
 reg [25] [22,23,24,25] [.bit b25] hs (Zc e6<|Zc e1 Zz) (aI h0 hN) Zk
theorem Dj6(hs:Sl 95 a l df)(e6:Lk l 6 (ii (i:Int)))(h0: -9223372036854775808<=(i:Int)+1/\(i:Int)+1<=9223372036854775807)
  (hN: ∀a',Sl 95 a' ((6,ii ((i:Int)+1))::A6 [6,26,27] l) df->N a' w):Rg N Q a w (E9 7):=
 reg [6] [6,26,27] [.ari] hs (Zc e6 Zz) (aI h0 hN) Zk
theorem Dj7{g30 o30:Nat}(hs:Sl 95 a l df)(e1:Lk l 1 (.slice bd bn bc))(e6:Lk l 6 (ii (i:Int)))(i0:Ix 24 (.slice bd bn bc) (ii (i:Int)) (pF g30 o30))(s1:So 3 g30 o30 (ii (-2)) w [ii (-2)])
  (hN: ∀a',Sl 95 a' (A6 [28,29,30] l) df->N a' (w.setCells g30 o30 [ii (-2)])):Rg N Q a w (E9 8):=
 reg [] [28,29,30] [.val (pF g30 o30),.sto] hs (Zc e1<|Zc e6 Zz) (aI (i0 w) (aI s1 hN)) Zk
theorem Dj8(hs:Sl 95 a l df)(e0:Lk l 0 (.slice ad an ac))
  (hN: ∀a',Sl 95 a' ((7,.slice ad an ac)::A6 [7,31] l) df->N a' w):Rg N Q a w (E9 9):=
 reg [7] [7,31] [] hs (Zc e0 Zz) hN Zk
theorem Bw2(hs:Sl 95 a l df)(e1:Lk l 1 (.slice bd bn bc))
  (hN: ∀a',Sl 95 a' ((8,.slice bd bn bc)::A6 [8,32] l) df->N a' w):Rg N Q a w (E9 10):=
 reg [8] [8,32] [] hs (Zc e1 Zz) hN Zk
theorem Bw3(hs:Sl 95 a l df)
  (hN: ∀a',Sl 95 a' ((9,ii 0)::A6 [9] l) df->N a' w):Rg N Q a w (E9 11):=
 Zg [9] hs hN
theorem Yu{b34:Bool}(hs:Sl 95 a l df)(e9:Lk l 9 (ii (i:Int)))(h0:decide ((i:Int)<20)=b34)
  (hN: ∀a',Sl 95 a' ((34,.bool b34)::A6 [33,34] l) df->N a' w):Rg N Q a w (E9 12):=
 reg [34] [33,34] [.bit b34] hs (Zc e9 Zz) (aI h0 hN) Zk
theorem Bw4(hs:Sl 95 a l df)(e9:Lk l 9 (ii (i:Int)))(h0: -9223372036854775808<=(i:Int)+1/\(i:Int)+1<=9223372036854775807)
  (hN: ∀a',Sl 95 a' ((9,ii ((i:Int)+1))::A6 [9,35,36] l) df->N a' w):Rg N Q a w (E9 13):=
 reg [9] [9,35,36] [.ari] hs (Zc e9 Zz) (aI h0 hN) Zk
theorem Bw5(hs:Sl 95 a l df)(e7:Lk l 7 (.slice xd xn xc))(k0: ∀ty,∃v w',(Builtin.append_ #[24,24] ty #[.slice xd xn xc,.slice (some ⟨w.heap.size,0,none⟩) 1 1]).run Tryz.prog (w.alloc (.cells #[ii (-1)] 3))=.ok v.v w'/\C0 (w.alloc (.cells #[ii (-1)] 3)) v w')
  (hN: ∀a' (x39:S3) (w1:World),C0 (w.alloc (.cells #[ii (-1)] 3)) x39 w1->Sl 95 a' ((7,.slice x39.d x39.n x39.c)::A6 [7,37,38,39] l) df->N a' w1):Rg N Q a w (E9 14):=
 reg [7] [7,37,38,39] [.raw,.apxw S3 S3.v C0] hs (Zc e7 Zz) (aI k0 (fun(x39:S3) (w1:World) (hc0:C0 (w.alloc (.cells #[ii (-1)] 3)) x39 w1)a'=>hN a' x39 w1 hc0)) Zk
theorem Bw6(hs:Sl 95 a l df)
  (hN: ∀a',Sl 95 a' ((10,ii 0)::A6 [10] l) df->N a' w):Rg N Q a w (E9 15):=
 Zg [10] hs hN
theorem Yv{b41:Bool}(hs:Sl 95 a l df)(e10:Lk l 10 (ii (i:Int)))(h0:decide ((i:Int)<20)=b41)
  (hN: ∀a',Sl 95 a' ((41,.bool b41)::A6 [40,41] l) df->N a' w):Rg N Q a w (E9 16):=
 reg [41] [40,41] [.bit b41] hs (Zc e10 Zz) (aI h0 hN) Zk
theorem Bw7(hs:Sl 95 a l df)(e10:Lk l 10 (ii (i:Int)))(h0: -9223372036854775808<=(i:Int)+1/\(i:Int)+1<=9223372036854775807)
  (hN: ∀a',Sl 95 a' ((10,ii ((i:Int)+1))::A6 [10,42,43] l) df->N a' w):Rg N Q a w (E9 17):=
 reg [10] [10,42,43] [.ari] hs (Zc e10 Zz) (aI h0 hN) Zk
theorem Bw8(hs:Sl 95 a l df)(e8:Lk l 8 (.slice yd yn yc))(k0: ∀ty,∃v w',(Builtin.append_ #[24,24] ty #[.slice yd yn yc,.slice (some ⟨w.heap.size,0,none⟩) 1 1]).run Tryz.prog (w.alloc (.cells #[ii (-2)] 3))=.ok v.v w'/\C0 (w.alloc (.cells #[ii (-2)] 3)) v w')
  (hN: ∀a' (x46:S3) (w1:World),C0 (w.alloc (.cells #[ii (-2)] 3)) x46 w1->Sl 95 a' ((8,.slice x46.d x46.n x46.c)::A6 [8,44,45,46] l) df->N a' w1):Rg N Q a w (E9 18):=
 reg [8] [8,44,45,46] [.raw,.apxw S3 S3.v C0] hs (Zc e8 Zz) (aI k0 (fun(x46:S3) (w1:World) (hc0:C0 (w.alloc (.cells #[ii (-2)] 3)) x46 w1)a'=>hN a' x46 w1 hc0)) Zk
theorem Bw9(hs:Sl 95 a l df)
  (hN: ∀a',Sl 95 a' ((11,ii 0)::A6 [11] l) df->N a' w):Rg N Q a w (E9 19):=
 Zg [11] hs hN
theorem Yw{b50:Bool}(hs:Sl 95 a l df)(e11:Lk l 11 (ii (i:Int)))(e7:Lk l 7 (.slice xd xn xc))(h0:decide ((i:Int)<(xn:Int))=b50)
  (hN: ∀a',Sl 95 a' ((50,.bool b50)::A6 [47,48,49,50] l) df->N a' w):Rg N Q a w (E9 20):=
 reg [50] [47,48,49,50] [.bit b50] hs (Zc e11<|Zc e7 Zz) (aI h0 hN) Zk
theorem Bx0(hs:Sl 95 a l df)(e11:Lk l 11 (ii (i:Int)))(h0: -9223372036854775808<=(i:Int)+1/\(i:Int)+1<=9223372036854775807)
  (hN: ∀a',Sl 95 a' ((11,ii ((i:Int)+1))::A6 [11,51,52] l) df->N a' w):Rg N Q a w (E9 21):=
 reg [11] [11,51,52] [.ari] hs (Zc e11 Zz) (aI h0 hN) Zk
theorem Rl{g66 o66:Nat}{b68:Bool}(hs:Sl 95 a l df)(e7:Lk l 7 (.slice xd xn xc))(e11:Lk l 11 (ii (i:Int)))(e0:Lk l 0 (.slice ad an ac))(i0:Ix 24 (.slice xd xn xc) (ii (i:Int)) (pF g55 o55))(l1:Lp 3 (pF g55 o55) (ii x) w)(h2:decide (x≠(-1))=false)(h3:decide ((i:Int)<(an:Int))=true)(i4:Ix 24 (.slice ad an ac) (ii (i:Int)) (pF g66 o66))(l5:Lp 3 (pF g66 o66) (ii y) w)(h6:decide (y≠(-1))=b68)
  (hN: ∀a',Sl 95 a' ((70,.bool b68)::A6 (List.range' 53 18) l) df->N a' w):Rg N Q a w (E9 22):=
 reg [70] (List.range' 53 18) [.val (pF g55 o55),.val (ii x),.bit false,.bit true,.val (pF g66 o66),.val (ii y),.bit b68] hs (Zc e7<|Zc e11<|Zc e0 Zz) (aI (i0 w) (aI l1.run (aI h2 (aI h3 (aI (i4 w) (aI l5.run (aI h6 hN))))))) Zk
theorem Rm(hs:Sl 95 a l df)(e7:Lk l 7 (.slice xd xn xc))(e11:Lk l 11 (ii (i:Int)))(e0:Lk l 0 (.slice ad an ac))(i0:Ix 24 (.slice xd xn xc) (ii (i:Int)) (pF g55 o55))(l1:Lp 3 (pF g55 o55) (ii x) w)(h2:decide (x≠(-1))=false)(h3:decide ((i:Int)<(an:Int))=false)
  (hN: ∀a',Sl 95 a' ((70,.bool false)::A6 (List.range' 53 18) l) df->N a' w):Rg N Q a w (E9 22):=
 reg [70] (List.range' 53 18) [.val (pF g55 o55),.val (ii x),.bit false,.bit false] hs (Zc e7<|Zc e11<|Zc e0 Zz) (aI (i0 w) (aI l1.run (aI h2 (aI h3 hN)))) Zk
theorem Bx1(hs:Sl 95 a l df)
  (hN: ∀a',Sl 95 a' ((12,ii 0)::A6 [12] l) df->N a' w):Rg N Q a w (E9 24):=
 Zg [12] hs hN
theorem Yx{b74:Bool}(hs:Sl 95 a l df)(e12:Lk l 12 (ii (i:Int)))(e8:Lk l 8 (.slice yd yn yc))(h0:decide ((i:Int)<(yn:Int))=b74)
  (hN: ∀a',Sl 95 a' ((74,.bool b74)::A6 [71,72,73,74] l) df->N a' w):Rg N Q a w (E9 25):=
 reg [74] [71,72,73,74] [.bit b74] hs (Zc e12<|Zc e8 Zz) (aI h0 hN) Zk
theorem Bx2(hs:Sl 95 a l df)(e12:Lk l 12 (ii (i:Int)))(h0: -9223372036854775808<=(i:Int)+1/\(i:Int)+1<=9223372036854775807)
  (hN: ∀a',Sl 95 a' ((12,ii ((i:Int)+1))::A6 [12,75,76] l) df->N a' w):Rg N Q a w (E9 26):=
 reg [12] [12,75,76] [.ari] hs (Zc e12 Zz) (aI h0 hN) Zk
theorem Rn{g90 o90:Nat}{b92:Bool}(hs:Sl 95 a l df)(e8:Lk l 8 (.slice yd yn yc))(e12:Lk l 12 (ii (i:Int)))(e1:Lk l 1 (.slice bd bn bc))(i0:Ix 24 (.slice yd yn yc) (ii (i:Int)) (pF g79 o79))(l1:Lp 3 (pF g79 o79) (ii x) w)(h2:decide (x≠(-2))=false)(h3:decide ((i:Int)<(bn:Int))=true)(i4:Ix 24 (.slice bd bn bc) (ii (i:Int)) (pF g90 o90))(l5:Lp 3 (pF g90 o90) (ii y) w)(h6:decide (y≠(-2))=b92)
  (hN: ∀a',Sl 95 a' ((94,.bool b92)::A6 (List.range' 77 18) l) df->N a' w):Rg N Q a w (E9 27):=
 reg [94] (List.range' 77 18) [.val (pF g79 o79),.val (ii x),.bit false,.bit true,.val (pF g90 o90),.val (ii y),.bit b92] hs (Zc e8<|Zc e12<|Zc e1 Zz) (aI (i0 w) (aI l1.run (aI h2 (aI h3 (aI (i4 w) (aI l5.run (aI h6 hN))))))) Zk
theorem Ro(hs:Sl 95 a l df)(e8:Lk l 8 (.slice yd yn yc))(e12:Lk l 12 (ii (i:Int)))(e1:Lk l 1 (.slice bd bn bc))(i0:Ix 24 (.slice yd yn yc) (ii (i:Int)) (pF g79 o79))(l1:Lp 3 (pF g79 o79) (ii x) w)(h2:decide (x≠(-2))=false)(h3:decide ((i:Int)<(bn:Int))=false)
  (hN: ∀a',Sl 95 a' ((94,.bool false)::A6 (List.range' 77 18) l) df->N a' w):Rg N Q a w (E9 27):=
 reg [94] (List.range' 77 18) [.val (pF g79 o79),.val (ii x),.bit false,.bit false] hs (Zc e8<|Zc e12<|Zc e1 Zz) (aI (i0 w) (aI l1.run (aI h2 (aI h3 hN)))) Zk
theorem Bx3(hs:Sl 95 a l df)
  (hN: ∀a',Sl 95 a' ((4,.bool true)::A6 [4] l) df->N a' w):Rg N Q a w (E9 29):=
 Zg [4] hs hN
end Go.Proofs.YtbjegfpfmnleeaaGreatDoor
namespace Go.Proofs.YtbjegfpfmnleeaaGreatDoor
open Go.RowKit Go.Sort
def Pd(h:Hd)(k:Fo):Prop:= ∀(w:World) (S:Nat->Prop) (pa:Option Addr) (pc:Nat) (ia:Option Addr) (ic:Nat),DatAt w S h k pa pc ia ic->
 Calls Tryz.prog 24 #[.agg (h.cells pa pc ia k.len ic)] w fun e w'=>e=.returned (.int .i64 (I9 h k))/\Below w.heap.size w w'
theorem Rp(k:Fo)(j:Nat)(h':Hd)(k':Fo)(n:Int)(e:k.get j=some (h',k'))(hn:n<=100):L7 (k.drop j) n=L7 (k.drop (j+1)) (n+I9 h' k'):=by
 rw[Fo.drop_get k j h' k' e,K6,if_neg Zo]
set_option maxRecDepth 100000 in
set_option maxHeartbeats 2000000 in
theorem Pe(h:Hd)(k:Fo)(_ho:h.ok)(_hk:k.ok)(ih: ∀i h' k',k.get i=some (h',k')->Pd h' k'):Pd h k:=by
 intro w S pa pc ia ic hd
 obtain⟨hA,hbw⟩:Blk (w.alloc (.cells (h.cells pa pc ia k.len ic) 53)) w.heap.size 53 (h.cells pa pc ia k.len ic)/\Below w.heap.size w (w.alloc (.cells (h.cells pa pc ia k.len ic) 53)):=⟨Blk.new _ _ _,B2 (Below.refl _ _) _⟩
 by_cases h8:h.kind=8
 ·rcases Nat.lt_or_ge 100 k.len with h1 | h1
  ·have HS:Hid (I9 h k=101):=Lib.hid (by unfold I9;rw[if_neg Zo,if_pos h1])
   have h2:(100:Int)<(k.len:Int):=by omega
   have HB:=Lib.hid hbw
   clear hbw hA
   unfold Hd.cells at*
   rw[h8] at*
   go_enter Tryz.func24,Tryz.ntmps24
   go_wp2_with fail
   go_ret
   exact⟨Aj HS.out.symm,HB.out⟩
  have h2:(k.len:Int)<=100:=by omega
  have HS:Hid (I9 h k=if 100<L7 k 1 then 101 else L7 k 1):=Lib.hid (by unfold I9;rw[if_neg Zo,if_neg Zo])
  clear hbw hA
  have H8:=Lib.hid h8
  clear h8
  unfold Hd.cells
  go_enter Tryz.func24,Tryz.ntmps24
  go_upto_region 0 with fail
  go_cut [0,1,2] (fun _ t1 _ wx=>t1=.pointer (some ⟨w.heap.size,0,none⟩)/\Blk wx w.heap.size 53 (h.cells pa pc ia k.len ic)/\Below w.heap.size w wx)
  case first=>
   go_wp2_with fail
   go_meet
   case rel=>exact⟨rfl,Blk.new _ _ _,bz⟩
  case rest=>
  obtain⟨rfl,hA,hbw⟩:=hcut
  obtain⟨w0,rfl⟩: ∃w0:World,w0=wc:=⟨_,rfl⟩
  obtain⟨c0,c1,c2,c3,c4,c5,c6,c7,c8,c9,c10⟩:=(CellsAt.of_blk hA).box
  rw[H8.out] at c0
  go_upto_block 0 with fail
  go_cut [3] (fun t wx=>t=.int .i64 (L7 k 1)/\Below w.heap.size w wx)
  case first=>
   have HD:=Lib.hid hd
   have HIH:=Lib.hid ih
   have HA:=Lib.hid hA
   clear hd ih hA c0 c1 c2 c3 c4 c5 c6 c7 c8 c9 c10
   go_wp2_with fail
   go_loopg [3,4] k.len (fun g n i wr=> ∃(j:Nat) (x:Int),j<=k.len/\n=.int .i64 x/\i=.int .i64 j/\g=k.len-j/\Below w.heap.size w wr/\Blk wr w.heap.size 53 (h.cells pa pc ia k.len ic)/\1<=x/\x<=201/\Hid (L7 k 1=L7 (k.drop j) x))
   case atStart=>exact⟨0,1,Zo,rfl,rfl,Zo,hbw,HA.out,Zo,Zo,by unfold Hid;simp⟩
   case round=>
   obtain⟨j,x,hj,rfl,rfl,rfl,hbr,hAr,hx1,hx2,HN⟩:=hrel
   obtain⟨c0,c1,c2,c3,c4,c5,c6,c7,c8,c9,c10⟩:=(CellsAt.of_blk hAr).box
   by_cases hlt:j<k.len
   ·by_cases hx:x<=100
    ·obtain⟨h',k',hget⟩:=Fo.get_lt k j hlt
     have hks:SlAt _ S ia k:=(HD.out.below hbr (fun b _ h=>h)).kids
     obtain⟨b,o,rfl,hSb,pa',pc',ia',ic',hcs,hda⟩:=hks.get hget
     obtain⟨d0,d1,d2,d3,d4,d5,d6,d7,d8,d9,d10⟩:=hcs.eleven
     have hih:=HIH.out j h' k' hget wr S pa' pc' ia' ic' hda
     unfold Hd.cells at hih
     have HI:=Lib.hid hih
     have HDr:=Lib.hid (Rp k j h' k' x hget hx)
     have hsz:=L8 h' k' (O0 k')
     clear hih hget hcs hda hks
     go_wp2_with fail
     refine HI.out.mono ?_
     rintro e w4 ⟨rfl,hb4⟩
     have hbr4:Below w.heap.size w w4:=A7 hbr hb4
     have hA4:=hAr.below hb4 hAr.lt
     clear HI d0 d1 d2 d3 d4 d5 d6 d7 d8 d9 d10 hb4 c0 c1 c2 c3 c4 c5 c6 c7 c8 c9 c10 hbr hAr
     go_wp2_with fail
     go_roundg (k.len-(j+1))
     case measure=>omega
     case rel=>exact⟨j+1,_,Zo,rfl,by go_num,rfl,hbr4,hA4,Zo,Zo,by unfold Hid;rw[HN.out,HDr.out]⟩
    ·have hxx:100<x:=by omega
     go_wp2_with fail
     go_meet
     case rel=>exact⟨by rw[HN.out,Xq _ _ hxx],hbr⟩
   ·have hjk:j=k.len:=by omega
    subst hjk
    go_wp2_with fail
    go_meet
    case rel=>exact⟨by rw[HN.out,Fo.drop_len k _ (Nat.le_refl _)];rfl,hbr⟩
  case rest=>
  obtain⟨rfl,hbw2⟩:=hcut
  obtain⟨w2,rfl⟩: ∃w2:World,w2=wc:=⟨_,rfl⟩
  clear c0 c1 c2 c3 c4 c5 c6 c7 c8 c9 c10
  by_cases hx:100<L7 k 1
  ·go_wp2_with fail
   go_ret
   exact⟨Aj (by rw[HS.out,if_pos Zo]),hbw2⟩
  ·go_wp2_with fail
   go_ret
   exact⟨Aj (by rw[HS.out,if_neg Zo]),hbw2⟩
 ·have HS:Hid (I9 h k=1):=Lib.hid (by unfold I9;rw[if_pos h8])
  have HB:=Lib.hid hbw
  clear hbw hA
  unfold Hd.cells at*
  go_enter Tryz.func24,Tryz.ntmps24
  go_wp2_with fail
  go_ret
  exact⟨Aj HS.out.symm,HB.out⟩
theorem Hq: ∀(f:Fo),f.ok->∀i h k,f.get i=some (h,k)->Pd h k
 | .nil,_,i,h,k,e=>by simp[Fo.get] at e
 | .cons h' k' r,o,0,h,k,e=>by
  simp only[Fo.get,Option.some.injEq,Prod.mk.injEq] at e
  obtain⟨rfl,rfl⟩:=e
  exact Pe _ _ o.1 o.2.1 (Hq k' o.2.1)
 | .cons h' k' r,o,i+1,h,k,e=>Hq r o.2.2.1 i h k e
theorem Ao1(h:Hd)(k:Fo)(ho:h.ok)(hk:k.ok):Pd h k:=Pe h k ho hk (Hq k hk)
end Go.Proofs.YtbjegfpfmnleeaaGreatDoor
namespace Go.Proofs.YtbjegfpfmnleeaaGreatDoor
open Go.RowKit Go.Maps
set_option maxRecDepth 100000
def SmF:Fo->Prop
 | .nil=>True
 | .cons h k r=>(h.kind=8->k.len<=100/\SmF k)/\SmF r
theorem SmF.get: ∀(f:Fo) {i:Nat} {h:Hd} {k:Fo},SmF f->f.get i=some (h,k)->h.kind=8->k.len<=100/\SmF k
 | .cons h k r,0,h',k',hs,e,h8=>by
  simp only[Fo.get,Option.some.injEq,Prod.mk.injEq] at e
  obtain⟨rfl,rfl⟩:=e
  exact hs.1 h8
 | .cons h k r,i+1,h',k',hs,e,h8=>SmF.get r hs.2 e h8
theorem Hs: ∀(f:Fo) (n:Int),n<=L7 f n
 | .nil,n=>Int.le_refl _
 | .cons h k r,n=>by
  rw[K6]
  have h1:=L8 h k (O0 k)
  split
  ·omega
  ·have:=Hs r (n+I9 h k)
   omega
theorem Nc: ∀(f:Fo) (n:Int),0<=n->L7 f n<=100->SmF f
 | .nil,_,_,_=>trivial
 | .cons h k r,n,hn,hs=>by
  rw[K6] at hs
  split at hs
  ·omega
  ·have h0:=Hs r (n+I9 h k)
   have h1:=L8 h k (O0 k)
   refine⟨fun h8=> ?_,Nc r _ Zo hs⟩
   have hd:I9 h k<=100:=by omega
   unfold I9 at hd
   rw[if_neg Zo] at hd
   split at hd
   ·omega
   ·split at hd
    ·omega
    ·exact⟨Zo,Nc k 1 Zo Zo⟩
theorem By3{h:Hd}{k:Fo}(hs:I9 h k<=100)(h8:h.kind=8):k.len<=100/\SmF k:=by
 unfold I9 at hs
 rw[if_neg Zo] at hs
 split at hs
 ·omega
 ·split at hs
  ·omega
  ·exact⟨Zo,Nc k 1 Zo Zo⟩
theorem Dx: ∀(f:Fo),(∀i h k,f.get i=some (h,k)->I9 h k<=100)->SmF f
 | .nil,_=>trivial
 | .cons h k r,hs=>⟨By3 (hs 0 h k rfl),Dx r fun i h' k' e=>hs (i+1) h' k' e⟩
def Av(l:Fo):Bool:=decide (l.len<=40)&&(List.range l.len).all fun i=>match l.get i with
 | some (h,k)=>decide (I9 h k<=100)
 | none=>true
theorem smallF_iff{l:Fo}:Av l=true↔l.len<=40/\∀i h k,l.get i=some (h,k)->I9 h k<=100:=by
 unfold Av
 rw[Bool.and_eq_true,decide_eq_true_eq,List.all_eq_true]
 refine and_congr_right fun _=>⟨fun h i hd k e=> ?_,fun h i hi=> ?_⟩
 ·have:=h i (List.mem_range.2 (Fo.get_len _ _ _ e))
  rw[e] at this
  simpa using this
 ·cases hg:l.get i with
  | none=>rfl
  | some p=>simpa using h i p.1 p.2 hg
set_option maxHeartbeats 2000000 in
theorem Zr{w:World}{l:Fo}{ia:Option Addr}(hok:l.ok)(hf:l.len<=1034834473170)(hl:SlAt w (fun b=>b<w.heap.size) ia l)(lc:Nat):
  Calls Tryz.prog 7 #[.slice ia l.len lc] w fun e w'=>e=.returned (.bool (Av l))/\Below w.heap.size w w':=by
 refine B6 (vs:=[.slice ia l.len lc]) 23 Tryz.func7 An3 Zk (by simp) fun a0 h0=> ?_
 unfold Yq
 refine Zs (Dg6 h0 fun a1 h1=> ?_)
 refine wp_seq (Zs (Dg7 h1 fun a2 h2=> ?_))
 refine wp_block ?_
 refine wp_loop (fun a' wr=> ∃i:Nat,i<=l.len/\i<=40/\Sl 23 a' [(3,ii (i:Int)),(0,.slice ia l.len lc)]/\Below w.heap.size w wr/\∀j h k,j<i->l.get j=some (h,k)->I9 h k<=100) (fun a' _=>G1 l.len (F9 a' 3))
  ⟨0,Nat.zero_le _,Nat.zero_le _,h2.to ⟨rfl,rfl,trivial⟩,Below.refl _ _,fun j h k hj=>absurd hj (Nat.not_lt_zero _)⟩ ?_
 rintro a4 w4 ⟨i,hi,hi4,h4,hb4,hall⟩
 rw[h4.look 3 rfl,B4]
 unfold Dg5
 have fin: ∀(a5:Act) (w5:World),Sl 23 a5 [(0,.slice ia l.len lc)]->Below w.heap.size w w5->(i=l.len\/i=40)->Code.wp Tryz.prog (.seq (T2 6) .ret) (bodyPost Tryz.prog Tryz.f7 fun e w'=>e=.returned (.bool (Av l))/\Below w.heap.size w w') a5 w5:=fun a5 w5 h5 hb5 hor=>by
  refine Zs (Dh0 (b22:=Av l) h5 rfl ?_ fun a6 h6=>wp_ret (G7 rfl h6 rfl ⟨rfl,hb5⟩))
  rw[Bool.eq_iff_iff,decide_eq_true_eq,smallF_iff]
  refine⟨fun h=>⟨Zo,fun j hd k e=>hall j hd k ?_ e⟩,fun h=>by omega⟩
  have:=Fo.get_len _ _ _ e
  omega
 by_cases hlt:i<l.len
 ·by_cases h40:i<40
  ·refine wp_seq (Zs (Pb (ln:=l.len) (b10:=true) h4 rfl rfl (decide_eq_true Zo) (decide_eq_true Zo) fun a5 h5=>wpn (h5.look 11 rfl) ?_))
   obtain⟨h',k',hg⟩:=Fo.get_lt l i hlt
   obtain⟨ho,hko,hkl⟩:=Fo.ok_get l i h' k' hok hg
   have hl4:SlAt w4 (fun b=>b<w.heap.size) ia l:=hl.keep (fun b hb _=>hb4.block b hb) (fun _ hb _=>hb)
   obtain⟨b,o,hia,hSb,pa',pc',ja,jc,hc,hdd⟩:=hl4.get hg
   rw[hia] at h5
   have hs:=Ao1 h' k' ho hko w4 _ pa' pc' ja jc hdd
   have hsr:=L8 h' k' (O0 k')
   obtain⟨n,hn⟩: ∃n:Nat,I9 h' k'=(n:Int):=⟨(I9 h' k').toNat,Zo⟩
   rw[hn] at hs
   refine wp_seq (wp_block ?_)
   by_cases hbig:100<n
   ·refine Zs (Bd8 (n:=n) (d:=⟨h',k'⟩) (m:=⟨pa',pc',ja,jc⟩) (b19:=true) (C0:=fun v=>Below w4.heap.size w4 v) h5 rfl rfl (fun w=>J2 i Tryz.underlying23 K4 hlt w) (M2 (d:=⟨h',k'⟩) (m:=⟨pa',pc',ja,jc⟩) hc) hs (decide_eq_true Zo) fun a6 w6 hb6 h6=>wp_cond_true (h6.look 19 rfl) ?_)
    refine Zs (Dg9 h6 fun a7 h7=>wp_ret ?_)
    repeat (first | with_reducible refine D2 ?_ | with_reducible refine F1 ?_)
    refine G7 rfl h7 rfl ⟨?_,A7 hb4 hb6⟩
    have:Av l=false:=by
     rw[Bool.eq_false_iff]
     intro h
     have:=(smallF_iff.1 h).2 i h' k' hg
     omega
    rw[this]
   ·refine Zs (Bd8 (n:=n) (d:=⟨h',k'⟩) (m:=⟨pa',pc',ja,jc⟩) (b19:=false) (C0:=fun v=>Below w4.heap.size w4 v) h5 rfl rfl (fun w=>J2 i Tryz.underlying23 K4 hlt w) (M2 (d:=⟨h',k'⟩) (m:=⟨pa',pc',ja,jc⟩) hc) hs (decide_eq_false Zo) fun a6 w6 hb6 h6=>B9 (h6.look 19 rfl) (B1 ?_))
    show Code.wp _ (T2 3) _ a6 w6
    refine Zl (Dg8 h6 rfl Zo fun a7 h7=>⟨⟨i+1,hlt,Zo,by rw[hia];exact h7.to ⟨rfl,rfl,trivial⟩,A7 hb4 hb6,fun j hd k hj e=> ?_⟩, ?_⟩)
    ·by_cases hji:j=i
     ·subst hji
      rw[hg] at e
      simp only[Option.some.injEq,Prod.mk.injEq] at e
      obtain⟨rfl,rfl⟩:=e
      omega
     ·exact hall j hd k Zo e
    ·rw[h7.look 3 rfl]
     show G1 l.len (ii ((i+1:Nat):Int))<_
     rw[B4]
     omega
  ·refine wp_seq (Zs (Pb (ln:=l.len) (b10:=false) h4 rfl rfl (decide_eq_true Zo) (decide_eq_false Zo) fun a5 h5=>C9 (h5.look 11 rfl) ?_))
   refine A8 (A8 (B8 ?_))
   exact fin a5 w4 (h5.to ⟨rfl,trivial⟩) hb4 (.inr Zo)
 ·refine wp_seq (Zs (An4 (ln:=l.len) h4 rfl rfl (decide_eq_false Zo) fun a5 h5=>C9 (h5.look 11 rfl) ?_))
  refine A8 (A8 (B8 ?_))
  exact fin a5 w4 (h5.to ⟨rfl,trivial⟩) hb4 (.inl Zo)
def Mk(w:World)(g p:Nat):Prop:=w.cell? ⟨g,p+2,none⟩=some (ii (-71))/\w.cell? ⟨g,p+13,none⟩=some (ii (-72))
def LnAt(w:World)(S T:Nat->Prop):Nat->Nat->Fo->Prop
 | _,_,.nil=>True
 | b,o,.cons h k r=>(∃m:Dm,CellsAt w b o ((⟨h,k⟩:Dt).cs m)/\PathAt w T m.pa h.path/\h.path.length<=m.pc/\capOk m.pa m.pc/\k.len<=m.ic/\capOk m.ia m.ic/\(h.kind≠8->SlAt w T m.ia k)/\
   (h.kind=8->∃g,m.ia=some ⟨g,0,none⟩/\S g/\k.len+2<=m.ic/\LnAt w S T g 0 k/\Mk w g (k.len*11)))/\LnAt w S T b (o+11) r
def LeB(w:World)(S T:Nat->Prop)(k:Fo)(ia:Option Addr)(ic:Nat):Prop:= ∃g,ia=some ⟨g,0,none⟩/\S g/\k.len+2<=ic/\LnAt w S T g 0 k/\Mk w g (k.len*11)
structure EP (w:World) (S T:Nat->Prop) (h:Hd) (k:Fo) (m:Dm):Prop where
 path:PathAt w T m.pa h.path
 pcLe:h.path.length<=m.pc
 pcMax:capOk m.pa m.pc
 icLe:k.len<=m.ic
 icMax:capOk m.ia m.ic
 flat:h.kind≠8->SlAt w T m.ia k
 own:h.kind=8->LeB w S T k m.ia m.ic
theorem Mk.keep{w w':World}{g p:Nat}(h:Mk w g p)(hk:w'.heap[g]? =w.heap[g]?):Mk w' g p:=
 ⟨(World.cell?_of_block (w:=w) hk).trans h.1,(World.cell?_of_block (w:=w) hk).trans h.2⟩
theorem CellsAt.keep1{w w':World}{b o:Nat}{vs:Array Value}(h:CellsAt w b o vs)(hk:w'.heap[b]? =w.heap[b]?):CellsAt w' b o vs:=fun j v hv=>(World.cell?_of_block (w:=w) hk).trans (h j v hv)
theorem LnAt.keep{w w':World}{S T S' T':Nat->Prop}(hS: ∀b,S b->b<w.heap.size->w'.heap[b]? =w.heap[b]? /\S' b)(hT: ∀b,T b->b<w.heap.size->w'.heap[b]? =w.heap[b]? /\T' b): ∀(f:Fo) (b o:Nat),S b->LnAt w S T b o f->LnAt w' S' T' b o f
 | .nil,_,_,_,_=>trivial
 | .cons h k r,b,o,hb,⟨⟨m,h1,h2,h3,h4,h5,h6,h7,h8⟩,h9⟩=>by
  have hlt:b<w.heap.size:=H0 (h1 0 _ rfl)
  refine⟨⟨m,h1.keep1 (hS b hb hlt).1,h2.keep (fun b hb hl=>(hT b hb hl).1) (fun b hb hl=>(hT b hb hl).2),h3,h4,h5,h6,fun e=>(h7 e).keep (fun b hb hl=>(hT b hb hl).1) (fun b hb hl=>(hT b hb hl).2),fun e=> ?_⟩,LnAt.keep hS hT r b (o+11) hb h9⟩
  obtain⟨g,q1,q2,q3,q4,q5⟩:=h8 e
  have hgl:g<w.heap.size:=H0 q5.1
  exact⟨g,q1,(hS g q2 hgl).2,q3,LnAt.keep hS hT k g 0 q2 q4,q5.keep (hS g q2 hgl).1⟩
theorem LeB.keep{w w':World}{S T S' T':Nat->Prop}{k:Fo}{ia:Option Addr}{ic:Nat}(h:LeB w S T k ia ic)(hS: ∀b,S b->b<w.heap.size->w'.heap[b]? =w.heap[b]? /\S' b)(hT: ∀b,T b->b<w.heap.size->w'.heap[b]? =w.heap[b]? /\T' b):LeB w' S' T' k ia ic:=by
 obtain⟨g,q1,q2,q3,q4,q5⟩:=h
 have hgl:g<w.heap.size:=H0 q5.1
 exact⟨g,q1,(hS g q2 hgl).2,q3,LnAt.keep hS hT k g 0 q2 q4,q5.keep (hS g q2 hgl).1⟩
theorem EP.keep{w w':World}{S T S' T':Nat->Prop}{h:Hd}{k:Fo}{m:Dm}(e:EP w S T h k m)(hS: ∀b,S b->b<w.heap.size->w'.heap[b]? =w.heap[b]? /\S' b)(hT: ∀b,T b->b<w.heap.size->w'.heap[b]? =w.heap[b]? /\T' b):EP w' S' T' h k m:=
 ⟨e.path.keep (fun b hb hl=>(hT b hb hl).1) (fun b hb hl=>(hT b hb hl).2),e.pcLe,e.pcMax,e.icLe,e.icMax,fun q=>(e.flat q).keep (fun b hb hl=>(hT b hb hl).1) (fun b hb hl=>(hT b hb hl).2),fun q=>(e.own q).keep hS hT⟩
theorem LnAt.get{w:World}{S T:Nat->Prop}: ∀(f:Fo) (b o i:Nat) (h:Hd) (k:Fo),LnAt w S T b o f->f.get i=some (h,k)->∃m,CellsAt w b (o+i*11) ((⟨h,k⟩:Dt).cs m)/\EP w S T h k m
 | .cons h k r,b,o,0,h',k',⟨⟨m,h1,h2,h3,h4,h5,h6,h7,h8⟩,h9⟩,e=>by
  simp only[Fo.get,Option.some.injEq,Prod.mk.injEq] at e
  obtain⟨rfl,rfl⟩:=e
  exact⟨m,by simpa using h1,h2,h3,h4,h5,h6,h7,h8⟩
 | .cons h k r,b,o,i+1,h',k',⟨_,h6⟩,e=>by
  have:=LnAt.get r b (o+11) i h' k' h6 e
  rwa [show o+11+i*11=o+(i+1)*11 from by omega] at this
theorem LnAt.of_get{w:World}{S T:Nat->Prop}: ∀(f:Fo) (b o:Nat),(∀i h k,f.get i=some (h,k)->∃m,CellsAt w b (o+i*11) ((⟨h,k⟩:Dt).cs m)/\EP w S T h k m)->LnAt w S T b o f
 | .nil,_,_,_=>trivial
 | .cons h k r,b,o,hg=>by
  obtain⟨m,h1,h2⟩:=hg 0 h k rfl
  refine⟨⟨m,by simpa using h1,h2.path,h2.pcLe,h2.pcMax,h2.icLe,h2.icMax,h2.flat,h2.own⟩,LnAt.of_get r b (o+11) fun i h' k' e=> ?_⟩
  have:=hg (i+1) h' k' e
  rwa [show o+(i+1)*11=o+11+i*11 by omega] at this
theorem LnAt.fo{w:World}{S T U:Nat->Prop}(hS: ∀b,S b->U b)(hT: ∀b,T b->U b): ∀(f:Fo) (b o:Nat),LnAt w S T b o f->FoAt w U b o f
 | .nil,_,_,_=>trivial
 | .cons h k r,b,o,⟨⟨m,h1,h2,h3,h4,h5,h6,h7,h8⟩,h9⟩=>by
  refine⟨⟨m.pa,m.pc,m.ia,m.ic,h1,h2.keep (fun _ _ _=>rfl) (fun b hb _=>hT b hb),h3,h4,h5,h6, ?_⟩,LnAt.fo hS hT r b (o+11) h9⟩
  by_cases e:h.kind=8
  ·obtain⟨g,q1,q2,q3,q4,q5⟩:=h8 e
   exact .inr ⟨g,0,q1,hS g q2,LnAt.fo hS hT k g 0 q4⟩
  ·exact(h7 e).keep (S':=U) (fun _ _ _=>rfl) (fun b hb _=>hT b hb)
theorem LeB.sl{w:World}{S T U:Nat->Prop}{k:Fo}{ia:Option Addr}{ic:Nat}(h:LeB w S T k ia ic)(hS: ∀b,S b->U b)(hT: ∀b,T b->U b):SlAt w U ia k:=by
 obtain⟨g,q1,q2,q3,q4,q5⟩:=h
 exact .inr ⟨g,0,q1,hS g q2,LnAt.fo hS hT k g 0 q4⟩
end Go.Proofs.YtbjegfpfmnleeaaGreatDoor
