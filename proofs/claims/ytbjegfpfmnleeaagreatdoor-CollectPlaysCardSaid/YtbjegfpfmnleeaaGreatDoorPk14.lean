/-
   Written by an AI agent.
-/
import Derived.Test.YtbjegfpfmnleeaaGreatDoorPk13
namespace Go.Proofs.YtbjegfpfmnleeaaGreatDoor
open Go.RowKit Go.Sort
set_option maxRecDepth 100000
variable {a:Act} {w:World} {df:List Deferred} {N:Act->World->Prop} {Q:Exit->Act->World->Prop} {l:List (Nat×Value)}
variable {C0:World->Prop} {ad dd ld nd sd td:Option Addr} {an aq dc dn g31 gh gp i lc ln nc nn o31 sc sn tc tn wp:Nat} {b b19 b25:Bool} {n:Int}
noncomputable def Hh (n:Nat):Code:=((Tryz.f16.body.bind (D4 n)).getD .skip)
noncomputable def Ev2:Code:=(.seq (.seq (Hh 4) (.cond (.tmp 14) .skip (.exit 0))) (.seq (.block 1 (.seq (Hh 6) (.cond (.tmp 25) (.seq (Hh 7) .ret) .skip))) (Hh 5)))
noncomputable def Bb0:Code:=(.seq (Hh 0) (.seq (.seq (Hh 1) (.cond (.tmp 10) (.seq (Hh 2) .ret) .skip)) (.seq (.seq (Hh 3) (.block 0 (.loop Ev2))) (.seq (Hh 8) .ret))))
theorem Br5:Tryz.f16.body=some Bb0:=by kernel_rfl
theorem Eo0(hs:Sl 26 a l df)
  (hN: ∀a',Sl 26 a' ((4,.bool false)::A6 [4] l) df->N a' w):Rg N Q a w (Hh 0):=
 Zg [4] hs hN
theorem Cy3{b10:Bool}(hs:Sl 26 a l df)(e0:Lk l 0 (.slice sd sn sc))(e1:Lk l 1 (.slice td tn tc))(h0:decide ((sn:Int)≠(tn:Int))=b10)
  (hN: ∀a',Sl 26 a' ((10,.bool b10)::A6 [6,7,8,9,10] l) df->N a' w):Rg N Q a w (Hh 1):=
 reg [10] [6,7,8,9,10] [.bit b10] hs (Zc e0<|Zc e1 Zz) (aI h0 hN) Zk
theorem Eo1(hs:Sl 26 a l df)
  (hN: ∀a',Sl 26 a' ((4,.bool false)::A6 [4] l) df->N a' w):Rg N Q a w (Hh 2):=
 Zg [4] hs hN
theorem Eo2(hs:Sl 26 a l df)
  (hN: ∀a',Sl 26 a' ((5,ii 0)::A6 [5] l) df->N a' w):Rg N Q a w (Hh 3):=
 Zg [5] hs hN
theorem Cy4{b14:Bool}(hs:Sl 26 a l df)(e5:Lk l 5 (ii (i:Int)))(e0:Lk l 0 (.slice sd sn sc))(h0:decide ((i:Int)<(sn:Int))=b14)
  (hN: ∀a',Sl 26 a' ((14,.bool b14)::A6 [11,12,13,14] l) df->N a' w):Rg N Q a w (Hh 4):=
 reg [14] [11,12,13,14] [.bit b14] hs (Zc e5<|Zc e0 Zz) (aI h0 hN) Zk
theorem Eo3(hs:Sl 26 a l df)(e5:Lk l 5 (ii (i:Int)))(h0: -9223372036854775808<=(i:Int)+1/\(i:Int)+1<=9223372036854775807)
  (hN: ∀a',Sl 26 a' ((5,ii ((i:Int)+1))::A6 [5,15,16] l) df->N a' w):Rg N Q a w (Hh 5):=
 reg [5] [5,15,16] [.ari] hs (Zc e5 Zz) (aI h0 hN) Zk
theorem Cy5{g19 o19 g23 o23:Nat}{x y:Int}(hs:Sl 26 a l df)(e0:Lk l 0 (.slice sd sn sc))(e5:Lk l 5 (ii (i:Int)))(e1:Lk l 1 (.slice td tn tc))(i0:Ix 24 (.slice sd sn sc) (ii (i:Int)) (pF g19 o19))(l1:Lp 3 (pF g19 o19) (ii x) w)(i2:Ix 24 (.slice td tn tc) (ii (i:Int)) (pF g23 o23))(l3:Lp 3 (pF g23 o23) (ii y) w)(h4:decide (x≠y)=b25)
  (hN: ∀a' mm,Sl 26 a' ((25,.bool b25)::A6 (List.range' 17 9) l) df->N a' (w.drewN mm)):Rg N Q a w (Hh 6):=
 Ao [25] (List.range' 17 9) [.val (pF g19 o19),.val (ii x),.val (pF g23 o23),.val (ii y),.bit b25] hs (Zc e0<|Zc e5<|Zc e1 Zz) (aI i0 (aI l1 (aI i2 (aI l3 (aI h4 hN))))) Zk
theorem Eo4(hs:Sl 26 a l df)
  (hN: ∀a',Sl 26 a' ((4,.bool false)::A6 [4] l) df->N a' w):Rg N Q a w (Hh 7):=
 Zg [4] hs hN
theorem Eo5(hs:Sl 26 a l df)
  (hN: ∀a',Sl 26 a' ((4,.bool true)::A6 [4] l) df->N a' w):Rg N Q a w (Hh 8):=
 Zg [4] hs hN
noncomputable def Fw (n:Nat):Code:=((Tryz.f8.body.bind (D4 n)).getD .skip)
noncomputable def Ev3:Code:=(.seq (.seq (Fw 5) (.cond (.tmp 20) .skip (.exit 0))) (.seq (.block 1 (Fw 7)) (Fw 6)))
noncomputable def Bb1:Code:=(.seq (Fw 0) (.seq (Fw 1) (.seq (.seq (Fw 2) (.cond (.tmp 12) (.seq (Fw 3) .ret) .skip)) (.seq (.seq (Fw 4) (.block 0 (.loop Ev3))) (.seq (Fw 8) .ret)))))
theorem Br6:Tryz.f8.body=some Bb1:=by kernel_rfl
theorem Eo6(hs:Sl 30 a l df)
  (hN: ∀a',Sl 30 a' ((2,.pointer none)::A6 [2] l) df->N a' w):Rg N Q a w (Fw 0):=
 Zg [2] hs hN
theorem Eo7{C0:Nat->World->Prop}(hs:Sl 30 a l df)(k0:Ca 25 #[] w fun e w'=> ∃gh:Nat,e=.returned (pT gh)/\C0 gh w')
  (hN: ∀a' (gh:Nat) (w1:World),C0 gh w1->Sl 30 a' ((3,pT w1.heap.size)::A6 [3,5,6,7] l) df->N a' (w1.alloc (.cells #[pT gh,.slice none 0 0,.slice none 0 0] 37))):Rg N Q a w (Fw 1):=
 reg [3] [3,5,6,7] [.ex (Nat) (fun gh=>pT gh) C0,.raw,.raw] hs Zz (aI k0 (fun(gh:Nat) (w1:World) (hc0:C0 gh w1)a'=>hN a' gh w1 hc0)) Zk
theorem Eo8{b12:Bool}(hs:Sl 30 a l df)(e3:Lk l 3 (pT wp))(l0:Lp 35 (pT wp) (pT gh) w)(h1: ∀w,(binOp .eql 35 (pT gh) (.pointer none)).run Tryz.prog w=.ok (.bool b12) w)
  (hN: ∀a',Sl 30 a' ((12,.bool b12)::A6 [8,9,10,11,12] l) df->N a' w):Rg N Q a w (Fw 2):=
 reg [12] [8,9,10,11,12] [.val (pT gh),.bin (.bool b12)] hs (Zc e3 Zz) (aI l0.run (aI (G4 (x:=.tmp 11) (y:=.const (.pointer none)) Zk (h1 w)) hN)) Zk
theorem Eo9(hs:Sl 30 a l df)
  (hN: ∀a',Sl 30 a' ((4,ii 0)::A6 [4] l) df->N a' w):Rg N Q a w (Fw 4):=
 Zg [4] hs hN
theorem Xh(hs:Sl 30 a l df)(e4:Lk l 4 (ii (i:Int)))(e0:Lk l 0 (.slice ad an aq))(h0:decide ((i:Int)<(an:Int))=true)(h1:decide ((i:Int)<80)=b19)
  (hN: ∀a',Sl 30 a' ((20,.bool b19)::A6 (List.range' 13 8) l) df->N a' w):Rg N Q a w (Fw 5):=
 reg [20] (List.range' 13 8) [.bit true,.bit b19] hs (Zc e4<|Zc e0 Zz) (aI h0 (aI h1 hN)) Zk
theorem Br7(hs:Sl 30 a l df)(e4:Lk l 4 (ii (i:Int)))(e0:Lk l 0 (.slice ad an aq))(h0:decide ((i:Int)<(an:Int))=false)
  (hN: ∀a',Sl 30 a' ((20,.bool false)::A6 (List.range' 13 8) l) df->N a' w):Rg N Q a w (Fw 5):=
 reg [20] (List.range' 13 8) [.bit false] hs (Zc e4<|Zc e0 Zz) (aI h0 hN) Zk
theorem Ep0(hs:Sl 30 a l df)(e4:Lk l 4 (ii (i:Int)))(h0: -9223372036854775808<=(i:Int)+1/\(i:Int)+1<=9223372036854775807)
  (hN: ∀a',Sl 30 a' ((4,ii ((i:Int)+1))::A6 [4,21,22] l) df->N a' w):Rg N Q a w (Fw 6):=
 reg [4] [4,21,22] [.ari] hs (Zc e4 Zz) (aI h0 hN) Zk
theorem Ep1{g26 o26:Nat}{ak aa ab ac:Int}(hs:Sl 30 a l df)(e3:Lk l 3 (pT wp))(e0:Lk l 0 (.slice ad an aq))(e4:Lk l 4 (ii (i:Int)))(i0:Ix 22 (.slice ad an aq) (ii (i:Int)) (pF g26 o26))(l1:Lp 59 (pF g26 o26) (.agg #[ii ak,ii aa,ii ab,ii ac]) w)(k2:Cl 26 #[pT wp,.agg #[ii ak,ii aa,ii ab,ii ac]] w (.tuple #[]) C0)
  (hN: ∀a' (w1:World),C0 w1->Sl 30 a' (A6 [23,24,25,26,27,28] l) df->N a' w1):Rg N Q a w (Fw 7):=
 reg [] [23,24,25,26,27,28] [.val (pF g26 o26),.val (.agg #[ii ak,ii aa,ii ab,ii ac]),.ret (.tuple #[]) C0] hs (Zc e3<|Zc e0<|Zc e4 Zz) (aI (i0 w) (aI l1.run (aI k2 (fun(w1:World) (hc0:C0 w1)a'=>hN a' w1 hc0)))) Zk
theorem Ep2(hs:Sl 30 a l df)(e3:Lk l 3 (pT wp))
  (hN: ∀a',Sl 30 a' ((2,pT wp)::A6 [2,29] l) df->N a' w):Rg N Q a w (Fw 8):=
 reg [2] [2,29] [] hs (Zc e3 Zz) hN Zk
noncomputable def Ki (n:Nat):Code:=((Tryz.f9.body.bind (D4 n)).getD .skip)
noncomputable def Ev4:Code:=(.seq (.seq (Ki 3) (.cond (.tmp 19) .skip (.exit 0))) (.seq (.block 1 (.seq (Ki 5) (Ki 6))) (Ki 4)))
noncomputable def Bb2:Code:=(.seq (Ki 0) (.seq (Ki 1) (.seq (.seq (Ki 2) (.block 0 (.loop Ev4))) (.seq (Ki 7) .ret))))
theorem Br8:Tryz.f9.body=some Bb2:=by kernel_rfl
theorem Ep3(hs:Sl 45 a l df)
  (hN: ∀a',Sl 45 a' ((2,.pointer none)::A6 [2] l) df->N a' w):Rg N Q a w (Ki 0):=
 Zg [2] hs hN
theorem Ep4{C0:S3->World->Prop}(hs:Sl 45 a l df)(e0:Lk l 0 (pT wp))(l0:Lp 35 (pT wp) (pT gh) w)(k1:Ca 19 #[pT gh] w fun e w'=> ∃q:S3,e=.returned (.slice q.d q.n q.c)/\C0 q w')
  (hN: ∀a' (q:S3) (w1:World),C0 q w1->Sl 45 a' ((3,pT w1.heap.size)::A6 (3::List.range' 6 7) l) df->N a' (w1.alloc (.cells #[.slice q.d q.n q.c,.slice none 0 0] 33))):Rg N Q a w (Ki 1):=
 reg [3] (3::List.range' 6 7) [.val (pT gh),.ex (S3) (fun q=>.slice q.d q.n q.c) C0,.raw,.raw] hs (Zc e0 Zz) (aI l0.run (aI k1 (fun(q:S3) (w1:World) (hc0:C0 q w1)a'=>hN a' q w1 hc0))) Zk
theorem Ep5(hs:Sl 45 a l df)
  (hN: ∀a',Sl 45 a' ((4,ii 0)::A6 [4] l) df->N a' w):Rg N Q a w (Ki 2):=
 Zg [4] hs hN
theorem Cy6(hs:Sl 45 a l df)(e4:Lk l 4 (ii (i:Int)))(e3:Lk l 3 (pT gp))(l0:Lp 24 (pT gp) (.slice nd nn nc) w)(h1:decide ((i:Int)<(nn:Int))=b19)
  (hN: ∀a',Sl 45 a' ((19,.bool b19)::A6 (List.range' 13 7) l) df->N a' w):Rg N Q a w (Ki 3):=
 reg [19] (List.range' 13 7) [.val (.slice nd nn nc),.bit b19] hs (Zc e4<|Zc e3 Zz) (aI l0.run (aI h1 hN)) Zk
theorem Ep6(hs:Sl 45 a l df)(e4:Lk l 4 (ii (i:Int)))(h0: -9223372036854775808<=(i:Int)+1/\(i:Int)+1<=9223372036854775807)
  (hN: ∀a',Sl 45 a' ((4,ii ((i:Int)+1))::A6 [4,20,21] l) df->N a' w):Rg N Q a w (Ki 4):=
 reg [4] [4,20,21] [.ari] hs (Zc e4 Zz) (aI h0 hN) Zk
theorem Ep7{C:World->Prop}{C0:S3->World->Prop}(hs:Sl 45 a l df)(e0:Lk l 0 (pT wp))(e3:Lk l 3 (pT gp))(e4:Lk l 4 (ii (i:Int)))(c0:C (w.drewN 1))(l1: ∀u,C u->Lp 35 (pT wp) (pT gh) u)(l2: ∀u,C u->Lp 24 (pT gp) (.slice nd nn nc) u)(i3:Ix 24 (.slice nd nn nc) (ii (i:Int)) (pF g31 o31))(l4: ∀u,C u->Lp 3 (pF g31 o31) (ii n) u)(k5:Ca 21 #[pT gh,ii n] (w.drewN 1) fun e w'=> ∃q:S3,e=.returned (.slice q.d q.n q.c)/\C0 q w')
  (hN: ∀a' (q:S3) (w1:World),C0 q w1->Sl 45 a' ((5,.slice q.d q.n q.c)::A6 (5::List.range' 22 12) l) df->N a' w1):Rg N Q a w (Ki 5):=
 Sq 11 [(true,0),(true,1),(true,2),(true,3),(true,4),(true,5),(true,6),(true,7),(true,8),(true,9),(true,10)] C [5] (5::List.range' 22 12) [.val (pT gh),.val (.slice nd nn nc),.val (pF g31 o31),.val (ii n),.ex (S3) (fun q=>.slice q.d q.n q.c) C0] hs (Zc e0<|Zc e3<|Zc e4 Zz) (aI c0 (aI c0 (aI c0 (aI c0 (aI (fun u hu=>(l1 u hu).run) (aI c0 (aI c0 (aI c0 (aI c0 (aI (fun u hu=>(l2 u hu).run) (aI c0 (aI c0 (aI i3 (aI c0 (aI (fun u hu=>(l4 u hu).run) (aI c0 (aI k5 (fun(q:S3) (w1:World) (hc0:C0 q w1)a'=>hN a' q w1 hc0)))))))))))))))))) Zk
theorem Ep8{C0:World->S3->World->Prop}(hs:Sl 45 a l df)(e3:Lk l 3 (pT gp))(e5:Lk l 5 (.slice ld ln lc))(l0:Lp 31 (pF gp 1) (.slice td tn tc) w)(k1: ∀ty,∃v w',(Builtin.append_ #[31,31] ty #[.slice td tn tc,.slice (some ⟨w.heap.size,0,none⟩) 1 1]).run Tryz.prog (w.alloc (.cells #[.slice ld ln lc] 24))=.ok v.v w'/\C0 (w.alloc (.cells #[.slice ld ln lc] 24)) v w')(s2: ∀(x41:S3) (w1:World),C0 (w.alloc (.cells #[.slice ld ln lc] 24)) x41 w1->So 31 gp 1 (.slice x41.d x41.n x41.c) w1 [.slice x41.d x41.n x41.c])
  (hN: ∀a' (x41:S3) (w1:World),C0 (w.alloc (.cells #[.slice ld ln lc] 24)) x41 w1->Sl 45 a' (A6 (List.range' 34 10) l) df->N a' (w1.setCells gp 1 [.slice x41.d x41.n x41.c])):Rg N Q a w (Ki 6):=
 reg [] (List.range' 34 10) [.val (.slice td tn tc),.raw,.apxw S3 S3.v C0,.sto] hs (Zc e3<|Zc e5 Zz) (aI l0.run (aI k1 (fun(x41:S3) (w1:World) (hc0:C0 (w.alloc (.cells #[.slice ld ln lc] 24)) x41 w1)=>(aI (s2 x41 w1 hc0) (fun a'=>hN a' x41 w1 hc0))))) Zk
theorem Ep9(hs:Sl 45 a l df)(e3:Lk l 3 (pT gp))
  (hN: ∀a',Sl 45 a' ((2,pT gp)::A6 [2,44] l) df->N a' w):Rg N Q a w (Ki 7):=
 reg [2] [2,44] [] hs (Zc e3 Zz) hN Zk
noncomputable def Bg (n:Nat):Code:=((Tryz.f6.body.bind (D4 n)).getD .skip)
noncomputable def Bb3:Code:=(.seq (Bg 0) (.seq (Bg 1) (.seq (.seq (Bg 2) (.cond (.tmp 26) (.seq (Bg 3) .ret) .skip)) (.seq (Bg 4) (.seq (Bg 5) (.seq (Bg 6) (.seq (Bg 7) (.seq (Bg 8) (.seq (Bg 9) (.seq (Bg 10) (.seq (Bg 11) (.seq (Bg 12) .ret))))))))))))
theorem Br9:Tryz.f6.body=some Bb3:=by kernel_rfl
theorem Eq0(hs:Sl 77 a l df)
  (hN: ∀a',Sl 77 a' ((0,.bool false)::A6 [0] l) df->N a' w):Rg N Q a w (Bg 0):=
 Zg [0] hs hN
theorem Eq1{C0:Nat->World->Prop}(hs:Sl 77 a l df)(k0:Ca 8 #[.slice (some ⟨w.heap.size,0,none⟩) 5 5] (w.alloc (.cells #[ii 3,ii 0,ii 3,ii 0,ii 1,ii 1,ii 0,ii 0,ii 2,ii 2,ii 0,ii 0,ii 4,ii 0,ii 0,ii 0,ii 7,ii 0,ii 3,ii 5] 59)) fun e w'=> ∃wp:Nat,e=.returned (pT wp)/\C0 wp w')
  (hN: ∀a' (wp:Nat) (w1:World),C0 wp w1->Sl 77 a' ((1,pT wp)::A6 (1::List.range' 10 7) l) df->N a' w1):Rg N Q a w (Bg 1):=
 reg [1] (1::List.range' 10 7) [.raw,.raw,.raw,.raw,.raw,.raw,.ex (Nat) (fun wp=>pT wp) C0] hs Zz (aI k0 (fun(wp:Nat) (w1:World) (hc0:C0 wp w1)a'=>hN a' wp w1 hc0)) Zk
theorem Bs0(hs:Sl 77 a l df)(e1:Lk l 1 (pT wp))(h0: ∀w,(binOp .eql 27 (pT wp) (.pointer none)).run Tryz.prog w=.ok (.bool false) w)(l1:Lp 23 (pF wp 1) (.slice dd dn dc) w)(h2:decide ((dn:Int)≠4)=b25)
  (hN: ∀a',Sl 77 a' ((26,.bool b25)::A6 (List.range' 17 10) l) df->N a' w):Rg N Q a w (Bg 2):=
 reg [26] (List.range' 17 10) [.bin (.bool false),.val (.slice dd dn dc),.bit b25] hs (Zc e1 Zz) (aI (G4 (x:=.tmp 17) (y:=.const (.pointer none)) Zk (h0 w)) (aI l1.run (aI h2 hN))) Zk
theorem Eq2{d:Dt}{m:Dm}(hs:Sl 77 a l df)(e1:Lk l 1 (pT wp))(l0:Lp 23 (pF wp 1) (.slice dd dn dc) w)(i1:Ix 23 (.slice dd dn dc) (ii 2) (pF g31 o31))(l2:Lp 53 (pF g31 o31) (.agg (d.cs m)) w)
  (hN: ∀a',Sl 77 a' ((2,.slice (some ⟨w.heap.size,0,none⟩) 1 1)::A6 (2::List.range' 27 7) l) df->N a' (w.alloc (.cells (d.cs m) 53))):Rg N Q a w (Bg 4):=
 reg [2] (2::List.range' 27 7) [.val (.slice dd dn dc),.val (pF g31 o31),.val (.agg (d.cs m)),.raw] hs (Zc e1 Zz) (aI l0.run (aI (i1 w) (aI l2.run hN))) Zk
theorem Eq3{C0:S3->World->Prop}(hs:Sl 77 a l df)(e1:Lk l 1 (pT wp))(e2:Lk l 2 (.slice ld ln lc))(l0:Lp 35 (pT wp) (pT gh) w)(k1:Ca 12 #[pT gh,.slice ld ln lc,.slice none 0 0] w fun e w'=> ∃q:S3,e=.returned (.slice q.d q.n q.c)/\C0 q w')
  (hN: ∀a' (q:S3) (w1:World),C0 q w1->Sl 77 a' ((3,.slice q.d q.n q.c)::A6 (3::List.range' 34 6) l) df->N a' w1):Rg N Q a w (Bg 5):=
 reg [3] (3::List.range' 34 6) [.val (pT gh),.ex (S3) (fun q=>.slice q.d q.n q.c) C0] hs (Zc e1<|Zc e2 Zz) (aI l0.run (aI k1 (fun(q:S3) (w1:World) (hc0:C0 q w1)a'=>hN a' q w1 hc0))) Zk
theorem Eq4{C0:S3->World->Prop}(hs:Sl 77 a l df)(e1:Lk l 1 (pT wp))(e2:Lk l 2 (.slice ld ln lc))(l0:Lp 35 (pT wp) (pT gh) w)(k1:Ca 13 #[pT gh,.slice ld ln lc,.slice none 0 0,ii 1] w fun e w'=> ∃q:S3,e=.returned (.slice q.d q.n q.c)/\C0 q w')
  (hN: ∀a' (q:S3) (w1:World),C0 q w1->Sl 77 a' ((4,.slice q.d q.n q.c)::A6 (4::List.range' 40 6) l) df->N a' w1):Rg N Q a w (Bg 6):=
 reg [4] (4::List.range' 40 6) [.val (pT gh),.ex (S3) (fun q=>.slice q.d q.n q.c) C0] hs (Zc e1<|Zc e2 Zz) (aI l0.run (aI k1 (fun(q:S3) (w1:World) (hc0:C0 q w1)a'=>hN a' q w1 hc0))) Zk
theorem Eq5(hs:Sl 77 a l df)(e1:Lk l 1 (pT wp))(e2:Lk l 2 (.slice ld ln lc))(l0:Lp 35 (pT wp) (pT gh) w)(k1:Cl 18 #[pT gh,.slice ld ln lc,.slice none 0 0] w (ii n) C0)
  (hN: ∀a' (w1:World),C0 w1->Sl 77 a' ((5,ii n)::A6 (5::List.range' 46 6) l) df->N a' w1):Rg N Q a w (Bg 7):=
 reg [5] (5::List.range' 46 6) [.val (pT gh),.ret (ii n) C0] hs (Zc e1<|Zc e2 Zz) (aI l0.run (aI k1 (fun(w1:World) (hc0:C0 w1)a'=>hN a' w1 hc0))) Zk
theorem Eq6{C0:S3->World->Prop}(hs:Sl 77 a l df)(e1:Lk l 1 (pT wp))(l0:Lp 35 (pT wp) (pT gh) w)(k1:Ca 19 #[pT gh] w fun e w'=> ∃q:S3,e=.returned (.slice q.d q.n q.c)/\C0 q w')
  (hN: ∀a' (q:S3) (w1:World),C0 q w1->Sl 77 a' ((6,.slice q.d q.n q.c)::A6 [6,52,53,54,55,56] l) df->N a' w1):Rg N Q a w (Bg 8):=
 reg [6] [6,52,53,54,55,56] [.val (pT gh),.ex (S3) (fun q=>.slice q.d q.n q.c) C0] hs (Zc e1 Zz) (aI l0.run (aI k1 (fun(q:S3) (w1:World) (hc0:C0 q w1)a'=>hN a' q w1 hc0))) Zk
theorem Eq7{ac:Nat}(hs:Sl 77 a l df)(e3:Lk l 3 (.slice ad an ac))(k0:Cl 16 #[.slice ad an ac,.slice (some ⟨w.heap.size,0,none⟩) 3 3] (w.alloc (.cells #[ii 1,ii 2,ii 3] 3)) (.bool b) C0)
  (hN: ∀a' (w1:World),C0 w1->Sl 77 a' ((7,.bool b)::A6 [7,57,58,59] l) df->N a' w1):Rg N Q a w (Bg 9):=
 reg [7] [7,57,58,59] [.raw,.ret (.bool b) C0] hs (Zc e3 Zz) (aI k0 (fun(w1:World) (hc0:C0 w1)a'=>hN a' w1 hc0)) Zk
theorem Cy7{bd:Option Addr}{bn bc:Nat}(hs:Sl 77 a l df)(e4:Lk l 4 (.slice bd bn bc))(k0:Cl 16 #[.slice bd bn bc,.slice (some ⟨w.heap.size,0,none⟩) 3 3] (w.alloc (.cells #[ii 3,ii 2,ii 1] 3)) (.bool b) C0)
  (hN: ∀a' (w1:World),C0 w1->Sl 77 a' ((8,.bool b)::A6 [8,60,61,62] l) df->N a' w1):Rg N Q a w (Bg 10):=
 reg [8] [8,60,61,62] [.raw,.ret (.bool b) C0] hs (Zc e4 Zz) (aI k0 (fun(w1:World) (hc0:C0 w1)a'=>hN a' w1 hc0)) Zk
theorem Cy8{cd:Option Addr}{cn cc:Nat}(hs:Sl 77 a l df)(e6:Lk l 6 (.slice cd cn cc))(k0:Cl 16 #[.slice cd cn cc,.slice (some ⟨w.heap.size,0,none⟩) 3 3] (w.alloc (.cells #[ii 1,ii 2,ii 3] 3)) (.bool b) C0)
  (hN: ∀a' (w1:World),C0 w1->Sl 77 a' ((9,.bool b)::A6 [9,63,64,65] l) df->N a' w1):Rg N Q a w (Bg 11):=
 reg [9] [9,63,64,65] [.raw,.ret (.bool b) C0] hs (Zc e6 Zz) (aI k0 (fun(w1:World) (hc0:C0 w1)a'=>hN a' w1 hc0)) Zk
theorem Rh{n5:Int}{b75:Bool}(hs:Sl 77 a l df)(e7:Lk l 7 (.bool true))(e8:Lk l 8 (.bool true))(e9:Lk l 9 (.bool true))(e5:Lk l 5 (ii n5))(h0:decide (n5=1)=b75)
  (hN: ∀a',Sl 77 a' ((0,.bool b75)::A6 (0::List.range' 66 11) l) df->N a' w):Rg N Q a w (Bg 12):=
 reg [0] (0::List.range' 66 11) [.bit b75] hs (Zc e7<|Zc e8<|Zc e9<|Zc e5 Zz) (aI h0 hN) Zk
end Go.Proofs.YtbjegfpfmnleeaaGreatDoor
