/-
   Written by an AI agent.
-/
import Derived.Test.YtbjegfpfmnleeaaGreatDoorPk13
namespace Go.Proofs.YtbjegfpfmnleeaaGreatDoor
open Go.RowKit Go.Sort
set_option maxRecDepth 100000
variable {a:Act} {w:World} {df:List Deferred} {N:Act->World->Prop} {Q:Exit->Act->World->Prop} {l:List (Nat×Value)}
variable {C C0:World->Prop} {C1 C3:S3->World->Prop} {C2:World->S3->World->Prop} {ac an bm g3 g4 g5 g6 g7 g8 gh mb p:Nat} {ad:Option Addr} {b:Bool} {d k x y:Dt} {ix n:Int} {m mk mp mv mx my:Dm} {v:Value}
noncomputable def Np (n:Nat):Code:=((Tryz.f46.body.bind (D4 n)).getD .skip)
noncomputable def Av3:Code:=(.seq (Np 0) (.seq (.seq (Np 1) (.cond (.tmp 24) (.seq (Np 2) .ret) .skip)) (.seq (.seq (Np 3) (.seq (Np 4) (.cond (.tmp 38) (.seq (Np 5) .ret) .skip))) (.seq (Np 6) .ret))))
theorem Bk6:Tryz.f46.body=some Av3:=by kernel_rfl
theorem Eb3(hs:Sl 47 a l df)(e1:Lk l 1 (.agg (d.cs m)))(e2:Lk l 2 (.agg (x.cs mx)))(e3:Lk l 3 (.agg (y.cs my)))
  (hN: ∀a',Sl 47 a' ((5,pT w.heap.size)::(6,pT ((w.alloc (.cells (d.cs m) 53)).heap.size))::(7,pT (((w.alloc (.cells (d.cs m) 53)).alloc (.cells (x.cs mx) 53)).heap.size))::(8,.nilIface)::A6 [5,6,7,8] l) df->N a' (((w.alloc (.cells (d.cs m) 53)).alloc (.cells (x.cs mx) 53)).alloc (.cells (y.cs my) 53))):Rg N Q a w (Np 0):=
 reg [5,6,7,8] [5,6,7,8] [.raw,.raw,.raw] hs (Zc e1<|Zc e2<|Zc e3 Zz) hN Zk
theorem Cl3{C1 C2:World->Prop}(hs:Sl 47 a l df)(e0:Lk l 0 (pT gh))(e5:Lk l 5 (pT g5))(e6:Lk l 6 (pT g6))(e7:Lk l 7 (pT g7))(l0:Lp 53 (pT g5) (.agg (d.cs m)) w)(k1:Cl 64 #[pT gh,.agg (d.cs m),ii 6] w (.bool true) C0)(l2: ∀(w1:World),C0 w1->Lp 53 (pT g6) (.agg (x.cs mx)) w1)(k3: ∀(w1:World),C0 w1->Cl 65 #[.agg (x.cs mx)] w1 (.bool true) C1)(l4: ∀(w1:World),C0 w1->∀(w2:World),C1 w2->Lp 53 (pT g7) (.agg (y.cs my)) w2)(k5: ∀(w1:World),C0 w1->∀(w2:World),C1 w2->Cl 65 #[.agg (y.cs my)] w2 (.bool true) C2)
  (hN: ∀a' (w1:World) (w2:World) (w3:World),C0 w1->C1 w2->C2 w3->Sl 47 a' ((24,.bool false)::A6 (List.range' 11 14) l) df->N a' w3):Rg N Q a w (Np 1):=
 reg [24] (List.range' 11 14) [.val (.agg (d.cs m)),.ret (.bool true) C0,.val (.agg (x.cs mx)),.ret (.bool true) C1,.val (.agg (y.cs my)),.ret (.bool true) C2] hs (Zc e0<|Zc e5<|Zc e6<|Zc e7 Zz) (aI l0.run (aI k1 (fun(w1:World) (hc0:C0 w1)=>(aI (l2 w1 hc0).run (aI (k3 w1 hc0) (fun(w2:World) (hc1:C1 w2)=>(aI (l4 w1 hc0 w2 hc1).run (aI (k5 w1 hc0 w2 hc1) (fun(w3:World) (hc2:C2 w3)a'=>hN a' w1 w2 w3 hc0 hc1 hc2))))))))) Zk
theorem Cl4(hs:Sl 47 a l df)(e0:Lk l 0 (pT gh))(e5:Lk l 5 (pT g5))(l0:Lp 53 (pT g5) (.agg (d.cs m)) w)(k1:Cl 64 #[pT gh,.agg (d.cs m),ii 6] w (.bool false) C0)
  (hN: ∀a' (w1:World),C0 w1->Sl 47 a' ((24,.bool true)::A6 (List.range' 11 14) l) df->N a' w1):Rg N Q a w (Np 1):=
 reg [24] (List.range' 11 14) [.val (.agg (d.cs m)),.ret (.bool false) C0] hs (Zc e0<|Zc e5 Zz) (aI l0.run (aI k1 (fun(w1:World) (hc0:C0 w1)a'=>hN a' w1 hc0))) Zk
theorem Eb4{C0:Nat->World->Prop}(hs:Sl 47 a l df)(k0:Ca 66 #[ii 1] w fun e w'=> ∃y:Nat,e=.returned (.iface 156 (pT y))/\C0 y w')
  (hN: ∀a' (y:Nat) (w1:World),C0 y w1->Sl 47 a' ((8,.iface 156 (pT y))::A6 [8,25] l) df->N a' w1):Rg N Q a w (Np 2):=
 reg [8] [8,25] [.ex (Nat) (fun y=>.iface 156 (pT y)) C0] hs Zz (aI k0 (fun(y:Nat) (w1:World) (hc0:C0 y w1)a'=>hN a' y w1 hc0)) Zk
theorem Eb5{o:Int}{p:Option Addr}(hs:Sl 47 a l df)(e0:Lk l 0 (pT gh))(e5:Lk l 5 (pT g5))(l0:Lp 79 (pT gh) (.map (some bm)) w)(l1:Lp 3 (pF g5 (5+0)) (ii o) w)(l2:Lkp Tryz.prog 79 (.map (some bm)) (ii o) false (v) w)(i3: ∀w,(Instr.typeAssert (v) 81 115 true).run Tryz.prog w=.ok (.tuple #[.pointer p,.bool b]) w)
  (hN: ∀a' mm,Sl 47 a' ((9,.pointer p)::(10,.bool b)::A6 (9::10::List.range' 26 12) l) df->N a' (w.drewN mm)):Rg N Q a w (Np 3):=
 Ao [9,10] (9::10::List.range' 26 12) [.val (.map (some bm)),.val (ii o),.val (v),.val (.tuple #[.pointer p,.bool b])] hs (Zc e0<|Zc e5 Zz) (aI l0 (aI l1 (aI l2 (aI i3 hN)))) Zk
theorem Eb6{b10:Bool}(hs:Sl 47 a l df)(e10:Lk l 10 (.bool b10))
  (hN: ∀a',Sl 47 a' ((38,.bool b10)::A6 [38] l) df->N a' w):Rg N Q a w (Np 4):=
 reg [38] [38] [] hs (Zc e10 Zz) hN Zk
theorem Eb7{g9:Nat}{C0:Value->World->Prop}(hs:Sl 47 a l df)(e9:Lk l 9 (pT g9))(e6:Lk l 6 (pT g6))(e7:Lk l 7 (pT g7))(c0:C (w.drewN 1))(l1: ∀u,C u->Lp 117 (pT g9) (pT mb) u)(l2: ∀u,C u->Lp 53 (pT g6) (.agg (x.cs mx)) u)(l3: ∀u,C u->Lp 53 (pT g7) (.agg (y.cs my)) u)(k4:Ca 70 #[pT mb,.agg (x.cs mx),.agg (y.cs my)] (w.drewN 1) fun e w'=> ∃er:Value,e=.returned (er)/\C0 er w')(c5: ∀(er:Value) (w1:World),C0 er w1->C w1)
  (hN: ∀a' (er:Value) (w1:World),C0 er w1->Sl 47 a' ((8,er)::A6 (8::List.range' 39 7) l) df->N a' w1):Rg N Q a w (Np 5):=
 Sq 7 [(true,0),(true,1),(true,2),(true,3),(true,4),(true,5),(false,6)] C [8] (8::List.range' 39 7) [.val (pT mb),.val (.agg (x.cs mx)),.val (.agg (y.cs my)),.ex (Value) (fun er=>er) C0] hs (Zc e9<|Zc e6<|Zc e7 Zz) (aI c0 (aI c0 (aI c0 (aI c0 (aI (fun u hu=>(l1 u hu).run) (aI c0 (aI (fun u hu=>(l2 u hu).run) (aI c0 (aI (fun u hu=>(l3 u hu).run) (aI c0 (aI k4 (fun(er:Value) (w1:World) (hc0:C0 er w1)=>(aI (c5 er w1 hc0) (fun a'=>hN a' er w1 hc0)))))))))))))) Zk
noncomputable def Nq (n:Nat):Code:=((Tryz.f45.body.bind (D4 n)).getD .skip)
noncomputable def Av4:Code:=(.seq (Nq 0) (.seq (.seq (Nq 1) (.cond (.tmp 17) (.seq (Nq 2) .ret) .skip)) (.seq (.seq (Nq 3) (.cond (.tmp 27) (.seq (Nq 4) .ret) .skip)) (.seq (Nq 5) (.seq (Nq 6) .ret)))))
theorem Bk7:Tryz.f45.body=some Av4:=by kernel_rfl
theorem Eb8(hs:Sl 40 a l df)(e1:Lk l 1 (.agg (d.cs m)))(e3:Lk l 3 (.agg (x.cs mx)))
  (hN: ∀a',Sl 40 a' ((5,pT w.heap.size)::(7,pT ((w.alloc (.cells (d.cs m) 53)).heap.size))::(8,.nilIface)::A6 [5,7,8] l) df->N a' ((w.alloc (.cells (d.cs m) 53)).alloc (.cells (x.cs mx) 53))):Rg N Q a w (Nq 0):=
 reg [5,7,8] [5,7,8] [.raw,.raw] hs (Zc e1<|Zc e3 Zz) hN Zk
theorem Cl5{C1:World->Prop}(hs:Sl 40 a l df)(e0:Lk l 0 (pT gh))(e5:Lk l 5 (pT g5))(e7:Lk l 7 (pT g7))(l0:Lp 53 (pT g5) (.agg (d.cs m)) w)(k1:Cl 64 #[pT gh,.agg (d.cs m),ii 5] w (.bool true) C0)(l2: ∀(w1:World),C0 w1->Lp 53 (pT g7) (.agg (x.cs mx)) w1)(k3: ∀(w1:World),C0 w1->Cl 65 #[.agg (x.cs mx)] w1 (.bool true) C1)
  (hN: ∀a' (w1:World) (w2:World),C0 w1->C1 w2->Sl 40 a' ((17,.bool false)::A6 (List.range' 9 9) l) df->N a' w2):Rg N Q a w (Nq 1):=
 reg [17] (List.range' 9 9) [.val (.agg (d.cs m)),.ret (.bool true) C0,.val (.agg (x.cs mx)),.ret (.bool true) C1] hs (Zc e0<|Zc e5<|Zc e7 Zz) (aI l0.run (aI k1 (fun(w1:World) (hc0:C0 w1)=>(aI (l2 w1 hc0).run (aI (k3 w1 hc0) (fun(w2:World) (hc1:C1 w2)a'=>hN a' w1 w2 hc0 hc1)))))) Zk
theorem Cl6(hs:Sl 40 a l df)(e0:Lk l 0 (pT gh))(e5:Lk l 5 (pT g5))(l0:Lp 53 (pT g5) (.agg (d.cs m)) w)(k1:Cl 64 #[pT gh,.agg (d.cs m),ii 5] w (.bool false) C0)
  (hN: ∀a' (w1:World),C0 w1->Sl 40 a' ((17,.bool true)::A6 (List.range' 9 9) l) df->N a' w1):Rg N Q a w (Nq 1):=
 reg [17] (List.range' 9 9) [.val (.agg (d.cs m)),.ret (.bool false) C0] hs (Zc e0<|Zc e5 Zz) (aI l0.run (aI k1 (fun(w1:World) (hc0:C0 w1)a'=>hN a' w1 hc0))) Zk
theorem Eb9{C0:Nat->World->Prop}(hs:Sl 40 a l df)(k0:Ca 66 #[ii 1] w fun e w'=> ∃y:Nat,e=.returned (.iface 156 (pT y))/\C0 y w')
  (hN: ∀a' (y:Nat) (w1:World),C0 y w1->Sl 40 a' ((8,.iface 156 (pT y))::A6 [8,18] l) df->N a' w1):Rg N Q a w (Nq 2):=
 reg [8] [8,18] [.ex (Nat) (fun y=>.iface 156 (pT y)) C0] hs Zz (aI k0 (fun(y:Nat) (w1:World) (hc0:C0 y w1)a'=>hN a' y w1 hc0)) Zk
theorem Bk8{ln:Int}{b26:Bool}(hs:Sl 40 a l df)(e2:Lk l 2 (ii ix))(e5:Lk l 5 (pT g5))(h0:decide (ix<0)=false)(l1:Lp 3 (pF g5 (5+2)) (ii ln) w)(h2:decide (ln<=ix)=b26)
  (hN: ∀a',Sl 40 a' ((27,.bool b26)::A6 (List.range' 19 9) l) df->N a' w):Rg N Q a w (Nq 3):=
 reg [27] (List.range' 19 9) [.bit false,.val (ii ln),.bit b26] hs (Zc e2<|Zc e5 Zz) (aI h0 (aI l1.run (aI h2 hN))) Zk
theorem Ec0{xn xc g39 o39:Nat}{xd:Option Addr}{C1:Dm->World->Prop}(hs:Sl 40 a l df)(e0:Lk l 0 (pT gh))(e5:Lk l 5 (pT g5))(e2:Lk l 2 (ii ix))(e7:Lk l 7 (pT g7))(c0:C (w.drewN 1))(l1: ∀u,C u->Lp 53 (pT g5) (.agg (d.cs m)) u)(l2: ∀u,C u->Lp 53 (pT g7) (.agg (x.cs mx)) u)(k3:Cl 69 #[pT gh,.agg (d.cs m)] (w.drewN 1) (.slice xd xn xc) C0)(c4: ∀(w1:World),C0 w1->C w1)(k5: ∀(w1:World),C0 w1->Ca 68 #[.agg (x.cs mx)] w1 fun e w'=> ∃q:Dm,e=.returned (.agg (x.cs q))/\C1 q w')(c6: ∀(w1:World),C0 w1->∀(q:Dm) (w2:World),C1 q w2->C w2)(i7:Ix 23 (.slice xd xn xc) (ii ix) (pF g39 o39))(s8: ∀(w1:World),C0 w1->∀(q:Dm) (w2:World),C1 q w2->So 53 g39 o39 (.agg (x.cs q)) w2 (x.cs q).toList)
  (hN: ∀a' (w1:World) (q:Dm) (w2:World),C0 w1->C1 q w2->Sl 40 a' (A6 (List.range' 33 7) l) df->N a' (w2.setCells g39 o39 (x.cs q).toList)):Rg N Q a w (Nq 5):=
 Sq 7 [(true,0),(true,1),(true,3),(true,4),(false,2),(false,5),(true,6)] C [] (List.range' 33 7) [.val (.agg (d.cs m)),.val (.agg (x.cs mx)),.ret (.slice xd xn xc) C0,.ex (Dm) (fun q=>.agg (x.cs q)) C1,.val (pF g39 o39),.sto] hs (Zc e0<|Zc e5<|Zc e2<|Zc e7 Zz) (aI c0 (aI c0 (aI (fun u hu=>(l1 u hu).run) (aI c0 (aI c0 (aI (fun u hu=>(l2 u hu).run) (aI c0 (aI k3 (fun(w1:World) (hc0:C0 w1)=>(aI (c4 w1 hc0) (aI (k5 w1 hc0) (fun(q:Dm) (w2:World) (hc1:C1 q w2)=>(aI (c6 w1 hc0 q w2 hc1) (aI i7 (aI (c6 w1 hc0 q w2 hc1) (aI (s8 w1 hc0 q w2 hc1) (fun a'=>hN a' w1 q w2 hc0 hc1))))))))))))))))) Zk
theorem Ec1(hs:Sl 40 a l df)
  (hN: ∀a',Sl 40 a' ((8,.nilIface)::A6 [8] l) df->N a' w):Rg N Q a w (Nq 6):=
 Zg [8] hs hN
noncomputable def Ql (n:Nat):Code:=((Tryz.f47.body.bind (D4 n)).getD .skip)
noncomputable def Av5:Code:=(.seq (Ql 0) (.seq (Ql 1) (.seq (.seq (Ql 2) (.cond (.tmp 25) (.seq (Ql 3) .ret) .skip)) (.seq (Ql 4) (.seq (Ql 5) .ret)))))
theorem Bk9:Tryz.f47.body=some Av5:=by kernel_rfl
theorem Ec2(hs:Sl 31 a l df)(e2:Lk l 2 (.agg (d.cs m)))
  (hN: ∀a',Sl 31 a' ((5,pT w.heap.size)::(6,.bool false)::A6 [5,6] l) df->N a' (w.alloc (.cells (d.cs m) 53))):Rg N Q a w (Ql 0):=
 reg [5,6] [5,6] [.raw] hs (Zc e2 Zz) hN Zk
theorem Ec3{p:Option Addr}(hs:Sl 31 a l df)(e0:Lk l 0 (pT gh))(e1:Lk l 1 (ii n))(l0:Lp 79 (pT gh) (.map (some bm)) w)(l1:Lkp Tryz.prog 79 (.map (some bm)) (ii n) false (v) w)(i2: ∀w,(Instr.typeAssert (v) 81 121 true).run Tryz.prog w=.ok (.tuple #[.pointer p,.bool b]) w)
  (hN: ∀a',Sl 31 a' ((7,.pointer p)::(8,.bool b)::A6 (List.range' 7 12) l) df->N a' w):Rg N Q a w (Ql 1):=
 reg [7,8] (List.range' 7 12) [.val (.map (some bm)),.val (v),.val (.tuple #[.pointer p,.bool b])] hs (Zc e0<|Zc e1 Zz) (aI l0.run (aI l1.run (aI (i2 w) hN))) Zk
theorem Bl0(hs:Sl 31 a l df)(e8:Lk l 8 (.bool true))(e5:Lk l 5 (pT g5))(l0:Lp 53 (pT g5) (.agg (d.cs m)) w)(k1:Cl 65 #[.agg (d.cs m)] w (.bool true) C0)
  (hN: ∀a' (w1:World),C0 w1->Sl 31 a' ((25,.bool false)::A6 (List.range' 19 7) l) df->N a' w1):Rg N Q a w (Ql 2):=
 reg [25] (List.range' 19 7) [.val (.agg (d.cs m)),.ret (.bool true) C0] hs (Zc e8<|Zc e5 Zz) (aI l0.run (aI k1 (fun(w1:World) (hc0:C0 w1)a'=>hN a' w1 hc0))) Zk
theorem Bl1(hs:Sl 31 a l df)(e8:Lk l 8 (.bool false))
  (hN: ∀a',Sl 31 a' ((25,.bool true)::A6 (List.range' 19 7) l) df->N a' w):Rg N Q a w (Ql 2):=
 reg [25] (List.range' 19 7) [] hs (Zc e8 Zz) hN Zk
theorem Ec4(hs:Sl 31 a l df)
  (hN: ∀a',Sl 31 a' ((6,.bool false)::A6 [6] l) df->N a' w):Rg N Q a w (Ql 3):=
 Zg [6] hs hN
theorem Ec5{C0:Dm->World->Prop}(hs:Sl 31 a l df)(e7:Lk l 7 (pT g7))(e5:Lk l 5 (pT g5))(l0:Lp 53 (pT g5) (.agg (d.cs m)) w)(k1:Ca 68 #[.agg (d.cs m)] w fun e w'=> ∃q:Dm,e=.returned (.agg (d.cs q))/\C0 q w')(s2: ∀(q:Dm) (w1:World),C0 q w1->So 53 g7 0 (.agg (d.cs q)) w1 (d.cs q).toList)
  (hN: ∀a' (q:Dm) (w1:World),C0 q w1->Sl 31 a' (A6 [26,27,28,29,30] l) df->N a' (w1.setCells g7 0 (d.cs q).toList)):Rg N Q a w (Ql 4):=
 reg [] [26,27,28,29,30] [.val (.agg (d.cs m)),.ex (Dm) (fun q=>.agg (d.cs q)) C0,.sto] hs (Zc e7<|Zc e5 Zz) (aI l0.run (aI k1 (fun(q:Dm) (w1:World) (hc0:C0 q w1)=>(aI (s2 q w1 hc0) (fun a'=>hN a' q w1 hc0))))) Zk
theorem Ec6(hs:Sl 31 a l df)
  (hN: ∀a',Sl 31 a' ((6,.bool true)::A6 [6] l) df->N a' w):Rg N Q a w (Ql 5):=
 Zg [6] hs hN
noncomputable def Bt (n:Nat):Code:=((Tryz.f48.body.bind (D4 n)).getD .skip)
noncomputable def Av6:Code:=(.seq (Bt 0) (.seq (.seq (Bt 1) (.cond (.tmp 18) (.seq (Bt 2) .ret) .skip)) (.seq (Bt 3) (.seq (.block 0 (.seq (Bt 4) (.cond (.tmp 26) (.seq (Bt 5) .ret) (.seq (Bt 6) (.cond (.tmp 30) (.seq (Bt 7) .ret) .skip))))) (.seq (.seq (Bt 8) (.seq (Bt 9) (.cond (.tmp 62) (.seq (Bt 10) .ret) .skip))) (.seq (Bt 11) (.seq (Bt 12) .ret)))))))
theorem Bl2:Tryz.f48.body=some Av6:=by kernel_rfl
theorem Ec7{p:Dt}(hs:Sl 70 a l df)(e1:Lk l 1 (.agg (p.cs mp)))(e2:Lk l 2 (.agg (d.cs m)))
  (hN: ∀a',Sl 70 a' ((4,pT w.heap.size)::(5,pT ((w.alloc (.cells (p.cs mp) 53)).heap.size))::(6,.nilIface)::A6 [4,5,6] l) df->N a' ((w.alloc (.cells (p.cs mp) 53)).alloc (.cells (d.cs m) 53))):Rg N Q a w (Bt 0):=
 reg [4,5,6] [4,5,6] [.raw,.raw] hs (Zc e1<|Zc e2 Zz) hN Zk
theorem Cl7{p:Dt}{C1:World->Prop}(hs:Sl 70 a l df)(e0:Lk l 0 (pT gh))(e4:Lk l 4 (pT g4))(e5:Lk l 5 (pT g5))(l0:Lp 53 (pT g4) (.agg (p.cs mp)) w)(k1:Cl 64 #[pT gh,.agg (p.cs mp),ii 9] w (.bool true) C0)(l2: ∀(w1:World),C0 w1->Lp 53 (pT g5) (.agg (d.cs m)) w1)(k3: ∀(w1:World),C0 w1->Cl 65 #[.agg (d.cs m)] w1 (.bool true) C1)
  (hN: ∀a' (w1:World) (w2:World),C0 w1->C1 w2->Sl 70 a' ((18,.bool false)::A6 (List.range' 10 9) l) df->N a' w2):Rg N Q a w (Bt 1):=
 reg [18] (List.range' 10 9) [.val (.agg (p.cs mp)),.ret (.bool true) C0,.val (.agg (d.cs m)),.ret (.bool true) C1] hs (Zc e0<|Zc e4<|Zc e5 Zz) (aI l0.run (aI k1 (fun(w1:World) (hc0:C0 w1)=>(aI (l2 w1 hc0).run (aI (k3 w1 hc0) (fun(w2:World) (hc1:C1 w2)a'=>hN a' w1 w2 hc0 hc1)))))) Zk
theorem Cl8{p:Dt}(hs:Sl 70 a l df)(e0:Lk l 0 (pT gh))(e4:Lk l 4 (pT g4))(l0:Lp 53 (pT g4) (.agg (p.cs mp)) w)(k1:Cl 64 #[pT gh,.agg (p.cs mp),ii 9] w (.bool false) C0)
  (hN: ∀a' (w1:World),C0 w1->Sl 70 a' ((18,.bool true)::A6 (List.range' 10 9) l) df->N a' w1):Rg N Q a w (Bt 1):=
 reg [18] (List.range' 10 9) [.val (.agg (p.cs mp)),.ret (.bool false) C0] hs (Zc e0<|Zc e4 Zz) (aI l0.run (aI k1 (fun(w1:World) (hc0:C0 w1)a'=>hN a' w1 hc0))) Zk
theorem Ec8{C0:Nat->World->Prop}(hs:Sl 70 a l df)(k0:Ca 66 #[ii 1] w fun e w'=> ∃y:Nat,e=.returned (.iface 156 (pT y))/\C0 y w')
  (hN: ∀a' (y:Nat) (w1:World),C0 y w1->Sl 70 a' ((6,.iface 156 (pT y))::A6 [6,19] l) df->N a' w1):Rg N Q a w (Bt 2):=
 reg [6] [6,19] [.ex (Nat) (fun y=>.iface 156 (pT y)) C0] hs Zz (aI k0 (fun(y:Nat) (w1:World) (hc0:C0 y w1)a'=>hN a' y w1 hc0)) Zk
theorem Ec9{p:Dt}(hs:Sl 70 a l df)(e0:Lk l 0 (pT gh))(e4:Lk l 4 (pT g4))(l0:Lp 53 (pT g4) (.agg (p.cs mp)) w)(k1:Cl 72 #[pT gh,.agg (p.cs mp)] w (.tuple #[pT g7,pT g8]) C0)
  (hN: ∀a' (w1:World),C0 w1->Sl 70 a' ((7,pT g7)::(8,pT g8)::A6 (7::8::List.range' 20 6) l) df->N a' w1):Rg N Q a w (Bt 3):=
 reg [7,8] (7::8::List.range' 20 6) [.val (.agg (p.cs mp)),.ret (.tuple #[pT g7,pT g8]) C0] hs (Zc e0<|Zc e4 Zz) (aI l0.run (aI k1 (fun(w1:World) (hc0:C0 w1)a'=>hN a' w1 hc0))) Zk
theorem Ed0{b28:Bool}(hs:Sl 70 a l df)(e7:Lk l 7 (pT g7))(h0: ∀w,(binOp .eql 125 (pT g7) (.pointer none)).run Tryz.prog w=.ok (.bool b28) w)
  (hN: ∀a',Sl 70 a' ((26,.bool b28)::A6 [26,27,28] l) df->N a' w):Rg N Q a w (Bt 4):=
 reg [26] [26,27,28] [.bin (.bool b28)] hs (Zc e7 Zz) (aI (G4 (x:=.tmp 27) (y:=.const (.pointer none)) Zk (h0 w)) hN) Zk
theorem Bl3{k:Int}{s1 s2:ByteArray}{b39:Bool}(hs:Sl 70 a l df)(e5:Lk l 5 (pT g5))(e4:Lk l 4 (pT g4))(l0:Lp 3 (pT g5) (ii k) w)(h1:decide (k≠8)=false)(l2:Lp 9 (pF g5 1) (.string s1) w)(l3:Lp 9 (pF g4 1) (.string s2) w)(h4:decide (s1≠s2)=b39)
  (hN: ∀a',Sl 70 a' ((30,.bool b39)::A6 (List.range' 30 11) l) df->N a' w):Rg N Q a w (Bt 6):=
 reg [30] (List.range' 30 11) [.val (ii k),.bit false,.val (.string s1),.val (.string s2),.bit b39] hs (Zc e5<|Zc e4 Zz) (aI l0.run (aI h1 (aI l2.run (aI l3.run (aI h4 hN))))) Zk
theorem Ed1{o:Dt}{mo:Dm}{z1 z2 z3:Int}(hs:Sl 70 a l df)(e8:Lk l 8 (pT g8))(e7:Lk l 7 (pT g7))(e5:Lk l 5 (pT g5))(l0: ∀u,C u->Lp 53 (pT g8) (.agg (o.cs mo)) u)(k1: ∀u,C u->Cl 74 #[.agg (o.cs mo)] u (ii z1) C)(l2: ∀u,C u->Lp 53 (pT g7) (.agg (o.cs mo)) u)(k3: ∀u,C u->Cl 74 #[.agg (o.cs mo)] u (ii z2) C)(h4: -9223372036854775808<=z1-z2/\z1-z2<=9223372036854775807)(l5: ∀u,C u->Lp 53 (pT g5) (.agg (d.cs m)) u)(k6: ∀u,C u->Cl 74 #[.agg (d.cs m)] u (ii z3) C)(h7: -9223372036854775808<=(z1-z2)+z3/\(z1-z2)+z3<=9223372036854775807)
  (hC:C (w.drewN 1)) (hN: ∀a' u,C u->Sl 70 a' ((9,ii ((z1-z2)+z3))::A6 (9::List.range' 48 13) l) df->N a' u):Rg N Q a w (Bt 8):=
 Eu5 C [9] (9::List.range' 48 13) [.val (.agg (o.cs mo)),.val (ii z1),.val (.agg (o.cs mo)),.val (ii z2),.ari,.val (.agg (d.cs m)),.val (ii z3),.ari] hs (Zc e8<|Zc e7<|Zc e5 Zz) (aI hC (aI (fun u hu=>(l0 u hu).run) (aI k1 (aI (fun u hu=>(l2 u hu).run) (aI k3 (aI h4 (aI (fun u hu=>(l5 u hu).run) (aI k6 (aI h7 (fun a' u hu=>hN a' u hu)))))))))) Zk
theorem Ed2{n9:Int}{b62:Bool}(hs:Sl 70 a l df)(e9:Lk l 9 (ii n9))(h0:decide ((100:Int)<n9)=b62)
  (hN: ∀a',Sl 70 a' ((62,.bool b62)::A6 [61,62] l) df->N a' w):Rg N Q a w (Bt 9):=
 reg [62] [61,62] [.bit b62] hs (Zc e9 Zz) (aI h0 hN) Zk
theorem Cl9{C0:Dm->World->Prop}(hs:Sl 70 a l df)(e7:Lk l 7 (pT g7))(e5:Lk l 5 (pT g5))(l0:Lp 53 (pT g5) (.agg (d.cs m)) w)(k1:Ca 68 #[.agg (d.cs m)] w fun e w'=> ∃q:Dm,e=.returned (.agg (d.cs q))/\C0 q w')(s2: ∀(q:Dm) (w1:World),C0 q w1->So 53 g7 0 (.agg (d.cs q)) w1 (d.cs q).toList)
  (hN: ∀a' (q:Dm) (w1:World),C0 q w1->Sl 70 a' (A6 [66,67,68,69] l) df->N a' (w1.setCells g7 0 (d.cs q).toList)):Rg N Q a w (Bt 11):=
 reg [] [66,67,68,69] [.val (.agg (d.cs m)),.ex (Dm) (fun q=>.agg (d.cs q)) C0,.sto] hs (Zc e7<|Zc e5 Zz) (aI l0.run (aI k1 (fun(q:Dm) (w1:World) (hc0:C0 q w1)=>(aI (s2 q w1 hc0) (fun a'=>hN a' q w1 hc0))))) Zk
theorem Cm0(hs:Sl 70 a l df)
  (hN: ∀a',Sl 70 a' ((6,.nilIface)::A6 [6] l) df->N a' w):Rg N Q a w (Bt 12):=
 Zg [6] hs hN
noncomputable def El (n:Nat):Code:=((Tryz.f21.body.bind (D4 n)).getD .skip)
noncomputable def Av7:Code:=(.seq (El 0) (.seq (El 1) (.seq (.seq (El 2) (.cond (.tmp 18) (.seq (El 3) .ret) .skip)) (.seq (El 4) (.seq (El 5) (.seq (El 6) .ret))))))
theorem Bl4:Tryz.f21.body=some Av7:=by kernel_rfl
theorem Ed3(hs:Sl 29 a l df)
  (hN: ∀a',Sl 29 a' ((4,.slice none 0 0)::A6 [4] l) df->N a' w):Rg N Q a w (El 0):=
 Zg [4] hs hN
theorem Cm1(hs:Sl 29 a l df)(e0:Lk l 0 (pT gh))(e1:Lk l 1 (ii n))(l0:Lp 79 (pT gh) (.map (some bm)) w)(l1:Lkp Tryz.prog 79 (.map (some bm)) (ii n) true (.tuple #[v,.bool b]) w)
  (hN: ∀a',Sl 29 a' ((5,v)::(6,.bool b)::A6 (5::6::List.range' 8 9) l) df->N a' w):Rg N Q a w (El 1):=
 reg [5,6] (5::6::List.range' 8 9) [.val (.map (some bm)),.val (.tuple #[v,.bool b])] hs (Zc e0<|Zc e1 Zz) (aI l0.run (aI l1.run hN)) Zk
theorem Cm2{b6:Bool}(hs:Sl 29 a l df)(e6:Lk l 6 (.bool b6))
  (hN: ∀a',Sl 29 a' ((18,.bool (!b6))::A6 [17,18] l) df->N a' w):Rg N Q a w (El 2):=
 reg [18] [17,18] [] hs (Zc e6 Zz) hN Zk
theorem Ed4(hs:Sl 29 a l df)
  (hN: ∀a',Sl 29 a' ((4,.slice none 0 0)::A6 [4] l) df->N a' w):Rg N Q a w (El 3):=
 Zg [4] hs hN
theorem Jd{C0:S3->World->Prop}(hs:Sl 29 a l df)(e5:Lk l 5 (.iface 126 (pT p)))(d0: ∀w,(method (Tryz.prog.types.size+Made.depth) 126 (pT p) "guise/heap.boxes").run Tryz.prog w=.ok (171,pT p) w)(k1:Ca 171 #[pT p] w fun e w'=> ∃x:S3,e=.returned (.slice x.d x.n x.c)/\C0 x w')(k2: ∀(x:S3) (w1:World),C0 x w1->Ca 39 #[.slice x.d x.n x.c] w1 fun e w'=> ∃y:S3,e=.returned (.slice y.d y.n y.c)/\C1 y w')(d3: ∀w,(method (Tryz.prog.types.size+Made.depth) 126 (pT p) "guise/heap.holds").run Tryz.prog w=.ok (172,pT p) w)(k4: ∀(x:S3) (w1:World),C0 x w1->∀(y:S3) (w2:World),C1 y w2->Ca 172 #[pT p] w2 fun e w'=> ∃z:S3,e=.returned (.slice z.d z.n z.c)/\C2 w2 z w')(k5: ∀(x:S3) (w1:World),C0 x w1->∀(y:S3) (w2:World),C1 y w2->∀(z:S3) (w3:World),C2 w2 z w3->Ca 38 #[.slice y.d y.n y.c,.slice z.d z.n z.c] w3 fun e w'=> ∃t:S3,e=.returned (.slice t.d t.n t.c)/\C3 t w')
  (hN: ∀a' (x:S3) (w1:World) (y:S3) (w2:World) (z:S3) (w3:World) (t:S3) (w4:World),C0 x w1->C1 y w2->C2 w2 z w3->C3 t w4->Sl 29 a' ((7,.slice t.d t.n t.c)::A6 (7::List.range' 19 6) l) df->N a' w4):Rg N Q a w (El 4):=
 reg [7] (7::List.range' 19 6) [.inv 171 (pT p) (S3) (fun x=>.slice x.d x.n x.c) (fun _=>C0),.ex (S3) (fun y=>.slice y.d y.n y.c) C1,.inv 172 (pT p) (S3) (fun z=>.slice z.d z.n z.c) C2,.ex (S3) (fun t=>.slice t.d t.n t.c) C3] hs (Zc e5 Zz) (aI (d0 w) (aI k1 (fun(x:S3) (w1:World) (hc0:C0 x w1)=>(aI (k2 x w1 hc0) (fun(y:S3) (w2:World) (hc1:C1 y w2)=>(aI (d3 w2) (aI (k4 x w1 hc0 y w2 hc1) (fun(z:S3) (w3:World) (hc2:C2 w2 z w3)=>(aI (k5 x w1 hc0 y w2 hc1 z w3 hc2) (fun(t:S3) (w4:World) (hc3:C3 t w4)a'=>hN a' x w1 y w2 z w3 t w4 hc0 hc1 hc2 hc3)))))))))) Zk
theorem Mc{C0:S3->World->Prop}(hs:Sl 29 a l df)(e5:Lk l 5 (.iface 146 (pT p)))(d0: ∀w,(method (Tryz.prog.types.size+Made.depth) 146 (pT p) "guise/heap.boxes").run Tryz.prog w=.ok (173,pT p) w)(k1:Ca 173 #[pT p] w fun e w'=> ∃x:S3,e=.returned (.slice x.d x.n x.c)/\C0 x w')(k2: ∀(x:S3) (w1:World),C0 x w1->Ca 39 #[.slice x.d x.n x.c] w1 fun e w'=> ∃y:S3,e=.returned (.slice y.d y.n y.c)/\C1 y w')(d3: ∀w,(method (Tryz.prog.types.size+Made.depth) 146 (pT p) "guise/heap.holds").run Tryz.prog w=.ok (174,pT p) w)(k4: ∀(x:S3) (w1:World),C0 x w1->∀(y:S3) (w2:World),C1 y w2->Ca 174 #[pT p] w2 fun e w'=> ∃z:S3,e=.returned (.slice z.d z.n z.c)/\C2 w2 z w')(k5: ∀(x:S3) (w1:World),C0 x w1->∀(y:S3) (w2:World),C1 y w2->∀(z:S3) (w3:World),C2 w2 z w3->Ca 38 #[.slice y.d y.n y.c,.slice z.d z.n z.c] w3 fun e w'=> ∃t:S3,e=.returned (.slice t.d t.n t.c)/\C3 t w')
  (hN: ∀a' (x:S3) (w1:World) (y:S3) (w2:World) (z:S3) (w3:World) (t:S3) (w4:World),C0 x w1->C1 y w2->C2 w2 z w3->C3 t w4->Sl 29 a' ((7,.slice t.d t.n t.c)::A6 (7::List.range' 19 6) l) df->N a' w4):Rg N Q a w (El 4):=
 reg [7] (7::List.range' 19 6) [.inv 173 (pT p) (S3) (fun x=>.slice x.d x.n x.c) (fun _=>C0),.ex (S3) (fun y=>.slice y.d y.n y.c) C1,.inv 174 (pT p) (S3) (fun z=>.slice z.d z.n z.c) C2,.ex (S3) (fun t=>.slice t.d t.n t.c) C3] hs (Zc e5 Zz) (aI (d0 w) (aI k1 (fun(x:S3) (w1:World) (hc0:C0 x w1)=>(aI (k2 x w1 hc0) (fun(y:S3) (w2:World) (hc1:C1 y w2)=>(aI (d3 w2) (aI (k4 x w1 hc0 y w2 hc1) (fun(z:S3) (w3:World) (hc2:C2 w2 z w3)=>(aI (k5 x w1 hc0 y w2 hc1 z w3 hc2) (fun(t:S3) (w4:World) (hc3:C3 t w4)a'=>hN a' x w1 y w2 z w3 t w4 hc0 hc1 hc2 hc3)))))))))) Zk
theorem Md{C0:S3->World->Prop}(hs:Sl 29 a l df)(e5:Lk l 5 (.iface 115 (pT p)))(d0: ∀w,(method (Tryz.prog.types.size+Made.depth) 115 (pT p) "guise/heap.boxes").run Tryz.prog w=.ok (164,pT p) w)(k1:Ca 164 #[pT p] w fun e w'=> ∃x:S3,e=.returned (.slice x.d x.n x.c)/\C0 x w')(k2: ∀(x:S3) (w1:World),C0 x w1->Ca 39 #[.slice x.d x.n x.c] w1 fun e w'=> ∃y:S3,e=.returned (.slice y.d y.n y.c)/\C1 y w')(d3: ∀w,(method (Tryz.prog.types.size+Made.depth) 115 (pT p) "guise/heap.holds").run Tryz.prog w=.ok (165,pT p) w)(k4: ∀(x:S3) (w1:World),C0 x w1->∀(y:S3) (w2:World),C1 y w2->Ca 165 #[pT p] w2 fun e w'=> ∃z:S3,e=.returned (.slice z.d z.n z.c)/\C2 w2 z w')(k5: ∀(x:S3) (w1:World),C0 x w1->∀(y:S3) (w2:World),C1 y w2->∀(z:S3) (w3:World),C2 w2 z w3->Ca 38 #[.slice y.d y.n y.c,.slice z.d z.n z.c] w3 fun e w'=> ∃t:S3,e=.returned (.slice t.d t.n t.c)/\C3 t w')
  (hN: ∀a' (x:S3) (w1:World) (y:S3) (w2:World) (z:S3) (w3:World) (t:S3) (w4:World),C0 x w1->C1 y w2->C2 w2 z w3->C3 t w4->Sl 29 a' ((7,.slice t.d t.n t.c)::A6 (7::List.range' 19 6) l) df->N a' w4):Rg N Q a w (El 4):=
 reg [7] (7::List.range' 19 6) [.inv 164 (pT p) (S3) (fun x=>.slice x.d x.n x.c) (fun _=>C0),.ex (S3) (fun y=>.slice y.d y.n y.c) C1,.inv 165 (pT p) (S3) (fun z=>.slice z.d z.n z.c) C2,.ex (S3) (fun t=>.slice t.d t.n t.c) C3] hs (Zc e5 Zz) (aI (d0 w) (aI k1 (fun(x:S3) (w1:World) (hc0:C0 x w1)=>(aI (k2 x w1 hc0) (fun(y:S3) (w2:World) (hc1:C1 y w2)=>(aI (d3 w2) (aI (k4 x w1 hc0 y w2 hc1) (fun(z:S3) (w3:World) (hc2:C2 w2 z w3)=>(aI (k5 x w1 hc0 y w2 hc1 z w3 hc2) (fun(t:S3) (w4:World) (hc3:C3 t w4)a'=>hN a' x w1 y w2 z w3 t w4 hc0 hc1 hc2 hc3)))))))))) Zk
theorem Uc{C0:S3->World->Prop}(hs:Sl 29 a l df)(e5:Lk l 5 (.iface 121 (pT p)))(d0: ∀w,(method (Tryz.prog.types.size+Made.depth) 121 (pT p) "guise/heap.boxes").run Tryz.prog w=.ok (169,pT p) w)(k1:Ca 169 #[pT p] w fun e w'=> ∃x:S3,e=.returned (.slice x.d x.n x.c)/\C0 x w')(k2: ∀(x:S3) (w1:World),C0 x w1->Ca 39 #[.slice x.d x.n x.c] w1 fun e w'=> ∃y:S3,e=.returned (.slice y.d y.n y.c)/\C1 y w')(d3: ∀w,(method (Tryz.prog.types.size+Made.depth) 121 (pT p) "guise/heap.holds").run Tryz.prog w=.ok (170,pT p) w)(k4: ∀(x:S3) (w1:World),C0 x w1->∀(y:S3) (w2:World),C1 y w2->Ca 170 #[pT p] w2 fun e w'=> ∃z:S3,e=.returned (.slice z.d z.n z.c)/\C2 w2 z w')(k5: ∀(x:S3) (w1:World),C0 x w1->∀(y:S3) (w2:World),C1 y w2->∀(z:S3) (w3:World),C2 w2 z w3->Ca 38 #[.slice y.d y.n y.c,.slice z.d z.n z.c] w3 fun e w'=> ∃t:S3,e=.returned (.slice t.d t.n t.c)/\C3 t w')
  (hN: ∀a' (x:S3) (w1:World) (y:S3) (w2:World) (z:S3) (w3:World) (t:S3) (w4:World),C0 x w1->C1 y w2->C2 w2 z w3->C3 t w4->Sl 29 a' ((7,.slice t.d t.n t.c)::A6 (7::List.range' 19 6) l) df->N a' w4):Rg N Q a w (El 4):=
 reg [7] (7::List.range' 19 6) [.inv 169 (pT p) (S3) (fun x=>.slice x.d x.n x.c) (fun _=>C0),.ex (S3) (fun y=>.slice y.d y.n y.c) C1,.inv 170 (pT p) (S3) (fun z=>.slice z.d z.n z.c) C2,.ex (S3) (fun t=>.slice t.d t.n t.c) C3] hs (Zc e5 Zz) (aI (d0 w) (aI k1 (fun(x:S3) (w1:World) (hc0:C0 x w1)=>(aI (k2 x w1 hc0) (fun(y:S3) (w2:World) (hc1:C1 y w2)=>(aI (d3 w2) (aI (k4 x w1 hc0 y w2 hc1) (fun(z:S3) (w3:World) (hc2:C2 w2 z w3)=>(aI (k5 x w1 hc0 y w2 hc1 z w3 hc2) (fun(t:S3) (w4:World) (hc3:C3 t w4)a'=>hN a' x w1 y w2 z w3 t w4 hc0 hc1 hc2 hc3)))))))))) Zk
theorem Gk{C0:S3->World->Prop}(hs:Sl 29 a l df)(e5:Lk l 5 (.iface 151 (pT p)))(d0: ∀w,(method (Tryz.prog.types.size+Made.depth) 151 (pT p) "guise/heap.boxes").run Tryz.prog w=.ok (175,pT p) w)(k1:Ca 175 #[pT p] w fun e w'=> ∃x:S3,e=.returned (.slice x.d x.n x.c)/\C0 x w')(k2: ∀(x:S3) (w1:World),C0 x w1->Ca 39 #[.slice x.d x.n x.c] w1 fun e w'=> ∃y:S3,e=.returned (.slice y.d y.n y.c)/\C1 y w')(d3: ∀w,(method (Tryz.prog.types.size+Made.depth) 151 (pT p) "guise/heap.holds").run Tryz.prog w=.ok (176,pT p) w)(k4: ∀(x:S3) (w1:World),C0 x w1->∀(y:S3) (w2:World),C1 y w2->Ca 176 #[pT p] w2 fun e w'=> ∃z:S3,e=.returned (.slice z.d z.n z.c)/\C2 w2 z w')(k5: ∀(x:S3) (w1:World),C0 x w1->∀(y:S3) (w2:World),C1 y w2->∀(z:S3) (w3:World),C2 w2 z w3->Ca 38 #[.slice y.d y.n y.c,.slice z.d z.n z.c] w3 fun e w'=> ∃t:S3,e=.returned (.slice t.d t.n t.c)/\C3 t w')
  (hN: ∀a' (x:S3) (w1:World) (y:S3) (w2:World) (z:S3) (w3:World) (t:S3) (w4:World),C0 x w1->C1 y w2->C2 w2 z w3->C3 t w4->Sl 29 a' ((7,.slice t.d t.n t.c)::A6 (7::List.range' 19 6) l) df->N a' w4):Rg N Q a w (El 4):=
 reg [7] (7::List.range' 19 6) [.inv 175 (pT p) (S3) (fun x=>.slice x.d x.n x.c) (fun _=>C0),.ex (S3) (fun y=>.slice y.d y.n y.c) C1,.inv 176 (pT p) (S3) (fun z=>.slice z.d z.n z.c) C2,.ex (S3) (fun t=>.slice t.d t.n t.c) C3] hs (Zc e5 Zz) (aI (d0 w) (aI k1 (fun(x:S3) (w1:World) (hc0:C0 x w1)=>(aI (k2 x w1 hc0) (fun(y:S3) (w2:World) (hc1:C1 y w2)=>(aI (d3 w2) (aI (k4 x w1 hc0 y w2 hc1) (fun(z:S3) (w3:World) (hc2:C2 w2 z w3)=>(aI (k5 x w1 hc0 y w2 hc1 z w3 hc2) (fun(t:S3) (w4:World) (hc3:C3 t w4)a'=>hN a' x w1 y w2 z w3 t w4 hc0 hc1 hc2 hc3)))))))))) Zk
theorem Ed5(hs:Sl 29 a l df)(e7:Lk l 7 (.slice ad an ac))(k0:Cl 40 #[.slice ad an ac] w (.tuple #[]) C0)
  (hN: ∀a' (w1:World),C0 w1->Sl 29 a' (A6 [25,26] l) df->N a' w1):Rg N Q a w (El 5):=
 reg [] [25,26] [.ret (.tuple #[]) C0] hs (Zc e7 Zz) (aI k0 (fun(w1:World) (hc0:C0 w1)a'=>hN a' w1 hc0)) Zk
theorem Ed6{C0:S3->World->Prop}(hs:Sl 29 a l df)(e7:Lk l 7 (.slice ad an ac))(k0:Ca 41 #[.slice ad an ac] w fun e w'=> ∃t:S3,e=.returned (.slice t.d t.n t.c)/\C0 t w')
  (hN: ∀a' (t:S3) (w1:World),C0 t w1->Sl 29 a' ((4,.slice t.d t.n t.c)::A6 [4,27,28] l) df->N a' w1):Rg N Q a w (El 6):=
 reg [4] [4,27,28] [.ex (S3) (fun t=>.slice t.d t.n t.c) C0] hs (Zc e7 Zz) (aI k0 (fun(t:S3) (w1:World) (hc0:C0 t w1)a'=>hN a' t w1 hc0)) Zk
noncomputable def Ag0 (n:Nat):Code:=((Tryz.f172.body.bind (D4 n)).getD .skip)
noncomputable def Ud:Code:=(.seq (Ag0 0) (.seq (Ag0 1) .ret))
theorem Ag1:Tryz.f172.body=some Ud:=by kernel_rfl
theorem Cm3(hs:Sl 8 a l df)
  (hN: ∀a',Sl 8 a' ((2,.slice none 0 0)::A6 [2] l) df->N a' w):Rg N Q a w (Ag0 0):=
 Zg [2] hs hN
theorem Cm4(hs:Sl 8 a l df)(e0:Lk l 0 (pT p))(l0:Lp 53 (pT p) (.agg (d.cs m)) w)
  (hN: ∀a',Sl 8 a' ((2,.slice (some ⟨w.heap.size,0,none⟩) 1 1)::A6 [2,3,4,5,6,7] l) df->N a' (w.alloc (.cells (d.cs m) 53))):Rg N Q a w (Ag0 1):=
 reg [2] [2,3,4,5,6,7] [.val (.agg (d.cs m)),.raw] hs (Zc e0 Zz) (aI l0.run hN) Zk
noncomputable def Ag2 (n:Nat):Code:=((Tryz.f171.body.bind (D4 n)).getD .skip)
noncomputable def Ue:Code:=(.seq (Ag2 0) (.seq (Ag2 1) .ret))
theorem Ag3:Tryz.f171.body=some Ue:=by kernel_rfl
theorem Cm5(hs:Sl 3 a l df)
  (hN: ∀a',Sl 3 a' ((2,.slice none 0 0)::A6 [2] l) df->N a' w):Rg N Q a w (Ag2 0):=
 Zg [2] hs hN
theorem Cm6(hs:Sl 3 a l df)
  (hN: ∀a',Sl 3 a' ((2,.slice none 0 0)::A6 [2] l) df->N a' w):Rg N Q a w (Ag2 1):=
 Zg [2] hs hN
noncomputable def Ag4 (n:Nat):Code:=((Tryz.f170.body.bind (D4 n)).getD .skip)
noncomputable def Uf:Code:=(.seq (Ag4 0) (.seq (Ag4 1) .ret))
theorem Ag5:Tryz.f170.body=some Uf:=by kernel_rfl
theorem Cm7(hs:Sl 8 a l df)
  (hN: ∀a',Sl 8 a' ((2,.slice none 0 0)::A6 [2] l) df->N a' w):Rg N Q a w (Ag4 0):=
 Zg [2] hs hN
theorem Cm8(hs:Sl 8 a l df)(e0:Lk l 0 (pT p))(l0:Lp 53 (pT p) (.agg (d.cs m)) w)
  (hN: ∀a',Sl 8 a' ((2,.slice (some ⟨w.heap.size,0,none⟩) 1 1)::A6 [2,3,4,5,6,7] l) df->N a' (w.alloc (.cells (d.cs m) 53))):Rg N Q a w (Ag4 1):=
 reg [2] [2,3,4,5,6,7] [.val (.agg (d.cs m)),.raw] hs (Zc e0 Zz) (aI l0.run hN) Zk
noncomputable def Ag6 (n:Nat):Code:=((Tryz.f169.body.bind (D4 n)).getD .skip)
noncomputable def Ug:Code:=(.seq (Ag6 0) (.seq (Ag6 1) .ret))
theorem Ag7:Tryz.f169.body=some Ug:=by kernel_rfl
theorem Cm9(hs:Sl 3 a l df)
  (hN: ∀a',Sl 3 a' ((2,.slice none 0 0)::A6 [2] l) df->N a' w):Rg N Q a w (Ag6 0):=
 Zg [2] hs hN
theorem Cn0(hs:Sl 3 a l df)
  (hN: ∀a',Sl 3 a' ((2,.slice none 0 0)::A6 [2] l) df->N a' w):Rg N Q a w (Ag6 1):=
 Zg [2] hs hN
noncomputable def Ag8 (n:Nat):Code:=((Tryz.f174.body.bind (D4 n)).getD .skip)
noncomputable def Uh:Code:=(.seq (Ag8 0) (.seq (Ag8 1) .ret))
theorem Ag9:Tryz.f174.body=some Uh:=by kernel_rfl
theorem Cn1(hs:Sl 7 a l df)
  (hN: ∀a',Sl 7 a' ((2,.slice none 0 0)::A6 [2] l) df->N a' w):Rg N Q a w (Ag8 0):=
 Zg [2] hs hN
theorem Cn2(hs:Sl 7 a l df)(e0:Lk l 0 (pT p))(l0:Lp 23 (pT p) (.slice ad an ac) w)
  (hN: ∀a',Sl 7 a' ((2,.slice ad an ac)::A6 [2,3,4,5,6] l) df->N a' w):Rg N Q a w (Ag8 1):=
 reg [2] [2,3,4,5,6] [.val (.slice ad an ac)] hs (Zc e0 Zz) (aI l0.run hN) Zk
noncomputable def Ah0 (n:Nat):Code:=((Tryz.f173.body.bind (D4 n)).getD .skip)
noncomputable def Ui:Code:=(.seq (Ah0 0) (.seq (Ah0 1) .ret))
theorem Ah1:Tryz.f173.body=some Ui:=by kernel_rfl
theorem Cn3(hs:Sl 3 a l df)
  (hN: ∀a',Sl 3 a' ((2,.slice none 0 0)::A6 [2] l) df->N a' w):Rg N Q a w (Ah0 0):=
 Zg [2] hs hN
theorem Cn4(hs:Sl 3 a l df)
  (hN: ∀a',Sl 3 a' ((2,.slice none 0 0)::A6 [2] l) df->N a' w):Rg N Q a w (Ah0 1):=
 Zg [2] hs hN
noncomputable def Ah2 (n:Nat):Code:=((Tryz.f176.body.bind (D4 n)).getD .skip)
noncomputable def Uj:Code:=(.seq (Ah2 0) (.seq (Ah2 1) .ret))
theorem Ah3:Tryz.f176.body=some Uj:=by kernel_rfl
theorem Cn5(hs:Sl 7 a l df)
  (hN: ∀a',Sl 7 a' ((2,.slice none 0 0)::A6 [2] l) df->N a' w):Rg N Q a w (Ah2 0):=
 Zg [2] hs hN
theorem Cn6(hs:Sl 7 a l df)(e0:Lk l 0 (pT p))(l0:Lp 23 (pF p 2) (.slice ad an ac) w)
  (hN: ∀a',Sl 7 a' ((2,.slice ad an ac)::A6 [2,3,4,5,6] l) df->N a' w):Rg N Q a w (Ah2 1):=
 reg [2] [2,3,4,5,6] [.val (.slice ad an ac)] hs (Zc e0 Zz) (aI l0.run hN) Zk
noncomputable def Ah4 (n:Nat):Code:=((Tryz.f175.body.bind (D4 n)).getD .skip)
noncomputable def Uk:Code:=(.seq (Ah4 0) (.seq (Ah4 1) .ret))
theorem Ah5:Tryz.f175.body=some Uk:=by kernel_rfl
theorem Cn7(hs:Sl 7 a l df)
  (hN: ∀a',Sl 7 a' ((2,.slice none 0 0)::A6 [2] l) df->N a' w):Rg N Q a w (Ah4 0):=
 Zg [2] hs hN
theorem Cn8(hs:Sl 7 a l df)(e0:Lk l 0 (pT p))(l0:Lp 24 (pF p 1) (.slice ad an ac) w)
  (hN: ∀a',Sl 7 a' ((2,.slice ad an ac)::A6 [2,3,4,5,6] l) df->N a' w):Rg N Q a w (Ah4 1):=
 reg [2] [2,3,4,5,6] [.val (.slice ad an ac)] hs (Zc e0 Zz) (aI l0.run hN) Zk
noncomputable def Ah6 (n:Nat):Code:=((Tryz.f164.body.bind (D4 n)).getD .skip)
noncomputable def Ul:Code:=(.seq (Ah6 0) (.seq (Ah6 1) .ret))
theorem Ah7:Tryz.f164.body=some Ul:=by kernel_rfl
theorem Cn9(hs:Sl 3 a l df)
  (hN: ∀a',Sl 3 a' ((2,.slice none 0 0)::A6 [2] l) df->N a' w):Rg N Q a w (Ah6 0):=
 Zg [2] hs hN
theorem Co0(hs:Sl 3 a l df)
  (hN: ∀a',Sl 3 a' ((2,.slice none 0 0)::A6 [2] l) df->N a' w):Rg N Q a w (Ah6 1):=
 Zg [2] hs hN
noncomputable def W9 (n:Nat):Code:=((Tryz.f165.body.bind (D4 n)).getD .skip)
noncomputable def Um:Code:=(.seq (W9 0) (.seq (W9 1) (.seq (.seq (W9 2) (.block 0 (.rangeFunc (.tmp 10) #[11,12] (.seq (W9 3) (W9 4)) (.block 1 (W9 5))))) (.seq (W9 6) .ret))))
theorem Ah8:Tryz.f165.body=some Um:=by kernel_rfl
theorem Co1(hs:Sl 23 a l df)
  (hN: ∀a',Sl 23 a' ((2,.slice none 0 0)::A6 [2] l) df->N a' w):Rg N Q a w (W9 0):=
 Zg [2] hs hN
theorem Co2(hs:Sl 23 a l df)
  (hN: ∀a',Sl 23 a' ((3,pT w.heap.size)::A6 [3] l) df->N a' (w.alloc (.cells #[.slice none 0 0] 23))):Rg N Q a w (W9 1):=
 reg [3] [3] [.raw] hs Zz hN Zk
theorem Co3{C0:Nat->World->Prop}(hs:Sl 23 a l df)(e0:Lk l 0 (pT p))(l0:Lp 117 (pT p) (pT mb) w)(k1:Ca 166 #[pT mb] w fun e w'=> ∃x:Nat,e=.returned (.func (.func 167) #[] #[pT x])/\C0 x w')
  (hN: ∀a' (x:Nat) (w1:World),C0 x w1->Sl 23 a' ((10,.func (.func 167) #[] #[pT x])::A6 [6,7,8,9,10] l) df->N a' w1):Rg N Q a w (W9 2):=
 reg [10] [6,7,8,9,10] [.val (pT mb),.ex (Nat) (fun x=>.func (.func 167) #[] #[pT x]) C0] hs (Zc e0 Zz) (aI l0.run (aI k1 (fun(x:Nat) (w1:World) (hc0:C0 x w1)a'=>hN a' x w1 hc0))) Zk
theorem Co4(hs:Sl 23 a l df)(e11:Lk l 11 (.agg (k.cs mk)))(s0:So 53 w.heap.size 0 (.agg (k.cs mk)) (w.alloc (.cells zA 53)) (k.cs mk).toList)
  (hN: ∀a',Sl 23 a' ((4,pT w.heap.size)::A6 [4] l) df->N a' ((w.alloc (.cells zA 53)).setCells w.heap.size 0 (k.cs mk).toList)):Rg N Q a w (W9 3):=
 reg [4] [4] [.raw,.sto] hs (Zc e11 Zz) (aI s0 hN) Zk
theorem Co5{v:Dt}(hs:Sl 23 a l df)(e12:Lk l 12 (.agg (v.cs mv)))(s0:So 53 w.heap.size 0 (.agg (v.cs mv)) (w.alloc (.cells zA 53)) (v.cs mv).toList)
  (hN: ∀a',Sl 23 a' ((5,pT w.heap.size)::A6 [5] l) df->N a' ((w.alloc (.cells zA 53)).setCells w.heap.size 0 (v.cs mv).toList)):Rg N Q a w (W9 4):=
 reg [5] [5] [.raw,.sto] hs (Zc e12 Zz) (aI s0 hN) Zk
theorem Co6(hs:Sl 23 a l df)(e3:Lk l 3 (pT g3))(l0:Lp 23 (pT g3) (.slice ad an ac) w)
  (hN: ∀a',Sl 23 a' ((2,.slice ad an ac)::A6 [2,22] l) df->N a' w):Rg N Q a w (W9 6):=
 reg [2] [2,22] [.val (.slice ad an ac)] hs (Zc e3 Zz) (aI l0.run hN) Zk
theorem Co7{gx:Nat}{v:Dt}{C0:World->Nat->World->Prop}(hs:Sl 23 a l df)(e4:Lk l 4 (pT g4))(e5:Lk l 5 (pT g5))(e3:Lk l 3 (pT g3))(c0:C (w.drewN 1))(l1: ∀u,C u->Lp 53 (pT g4) (.agg (k.cs mk)) u)(l2: ∀u,C u->Lp 53 (pT g5) (.agg (v.cs mv)) u)(l3:Lp 23 (pT g3) (.slice ad an ac) (w.drewN 1))(h4: -9223372036854775808<=(an:Int)+1/\(an:Int)+1<=9223372036854775807)(c5:C ((w.drewN 1).alloc (.cells ZA 53)))(k6: ∀ty,∃(v:Nat) (w':World),(Builtin.append_ #[23,23] ty #[.slice ad an ac,.slice (some ⟨(w.drewN 1).heap.size,0,none⟩) 2 2]).run Tryz.prog ((w.drewN 1).alloc (.cells ZA 53))=.ok (.slice (some ⟨gx,0,none⟩) (an+2) v) w'/\C0 ((w.drewN 1).alloc (.cells ZA 53)) v w')(c7: ∀(x18:Nat) (w1:World),C0 ((w.drewN 1).alloc (.cells ZA 53)) x18 w1->C w1)(i8: ∀(x18:Nat) (w1:World),C0 ((w.drewN 1).alloc (.cells ZA 53)) x18 w1->Ix 23 (.slice (some ⟨gx,0,none⟩) (an+2) x18) (ii (an:Int)) (pF gx (an*11)))(s9: ∀(x18:Nat) (w1:World),C0 ((w.drewN 1).alloc (.cells ZA 53)) x18 w1->So 53 gx (an*11) (.agg (k.cs mk)) w1 (k.cs mk).toList)(c10: ∀(x18:Nat) (w1:World),C0 ((w.drewN 1).alloc (.cells ZA 53)) x18 w1->C (w1.setCells gx (an*11) (k.cs mk).toList))(i11: ∀(x18:Nat) (w1:World),C0 ((w.drewN 1).alloc (.cells ZA 53)) x18 w1->Ix 23 (.slice (some ⟨gx,0,none⟩) (an+2) x18) (ii ((an:Int)+1)) (pF gx ((an+1)*11)))(s12: ∀(x18:Nat) (w1:World),C0 ((w.drewN 1).alloc (.cells ZA 53)) x18 w1->So 53 gx ((an+1)*11) (.agg (v.cs mv)) (w1.setCells gx (an*11) (k.cs mk).toList) (v.cs mv).toList)(c13: ∀(x18:Nat) (w1:World),C0 ((w.drewN 1).alloc (.cells ZA 53)) x18 w1->C ((w1.setCells gx (an*11) (k.cs mk).toList).setCells gx ((an+1)*11) (v.cs mv).toList))(s14: ∀(x18:Nat) (w1:World),C0 ((w.drewN 1).alloc (.cells ZA 53)) x18 w1->So 23 g3 0 (.slice (some ⟨gx,0,none⟩) (an+2) x18) ((w1.setCells gx (an*11) (k.cs mk).toList).setCells gx ((an+1)*11) (v.cs mv).toList) [.slice (some ⟨gx,0,none⟩) (an+2) x18])(c15: ∀(x18:Nat) (w1:World),C0 ((w.drewN 1).alloc (.cells ZA 53)) x18 w1->C (((w1.setCells gx (an*11) (k.cs mk).toList).setCells gx ((an+1)*11) (v.cs mv).toList).setCells g3 0 [.slice (some ⟨gx,0,none⟩) (an+2) x18]))(s16: ∀(x18:Nat) (w1:World),C0 ((w.drewN 1).alloc (.cells ZA 53)) x18 w1->So 23 g3 0 (.slice (some ⟨gx,0,none⟩) (an+2) x18) (w1.setCells gx (an*11) (k.cs mk).toList) [.slice (some ⟨gx,0,none⟩) (an+2) x18])(c17: ∀(x18:Nat) (w1:World),C0 ((w.drewN 1).alloc (.cells ZA 53)) x18 w1->C ((w1.setCells gx (an*11) (k.cs mk).toList).setCells g3 0 [.slice (some ⟨gx,0,none⟩) (an+2) x18]))(s18: ∀(x18:Nat) (w1:World),C0 ((w.drewN 1).alloc (.cells ZA 53)) x18 w1->So 53 gx ((an+1)*11) (.agg (v.cs mv)) ((w1.setCells gx (an*11) (k.cs mk).toList).setCells g3 0 [.slice (some ⟨gx,0,none⟩) (an+2) x18]) (v.cs mv).toList)(c19: ∀(x18:Nat) (w1:World),C0 ((w.drewN 1).alloc (.cells ZA 53)) x18 w1->C (((w1.setCells gx (an*11) (k.cs mk).toList).setCells g3 0 [.slice (some ⟨gx,0,none⟩) (an+2) x18]).setCells gx ((an+1)*11) (v.cs mv).toList))(s20: ∀(x18:Nat) (w1:World),C0 ((w.drewN 1).alloc (.cells ZA 53)) x18 w1->So 23 g3 0 (.slice (some ⟨gx,0,none⟩) (an+2) x18) w1 [.slice (some ⟨gx,0,none⟩) (an+2) x18])(c21: ∀(x18:Nat) (w1:World),C0 ((w.drewN 1).alloc (.cells ZA 53)) x18 w1->C (w1.setCells g3 0 [.slice (some ⟨gx,0,none⟩) (an+2) x18]))(s22: ∀(x18:Nat) (w1:World),C0 ((w.drewN 1).alloc (.cells ZA 53)) x18 w1->So 53 gx (an*11) (.agg (k.cs mk)) (w1.setCells g3 0 [.slice (some ⟨gx,0,none⟩) (an+2) x18]) (k.cs mk).toList)(c23: ∀(x18:Nat) (w1:World),C0 ((w.drewN 1).alloc (.cells ZA 53)) x18 w1->C ((w1.setCells g3 0 [.slice (some ⟨gx,0,none⟩) (an+2) x18]).setCells gx (an*11) (k.cs mk).toList))(s24: ∀(x18:Nat) (w1:World),C0 ((w.drewN 1).alloc (.cells ZA 53)) x18 w1->So 53 gx ((an+1)*11) (.agg (v.cs mv)) ((w1.setCells g3 0 [.slice (some ⟨gx,0,none⟩) (an+2) x18]).setCells gx (an*11) (k.cs mk).toList) (v.cs mv).toList)(c25: ∀(x18:Nat) (w1:World),C0 ((w.drewN 1).alloc (.cells ZA 53)) x18 w1->C (((w1.setCells g3 0 [.slice (some ⟨gx,0,none⟩) (an+2) x18]).setCells gx (an*11) (k.cs mk).toList).setCells gx ((an+1)*11) (v.cs mv).toList))(l26:Lp 23 (pT g3) (.slice ad an ac) ((w.drewN 1).alloc (.cells ZA 53)))
  (hN0: ∀a' (x18:Nat) (w1:World),C0 ((w.drewN 1).alloc (.cells ZA 53)) x18 w1->Sl 23 a' (A6 (List.range' 13 9) l) df->N a' (((w1.setCells gx (an*11) (k.cs mk).toList).setCells gx ((an+1)*11) (v.cs mv).toList).setCells g3 0 [.slice (some ⟨gx,0,none⟩) (an+2) x18]))
  (hN1: ∀a' (x18:Nat) (w1:World),C0 ((w.drewN 1).alloc (.cells ZA 53)) x18 w1->Sl 23 a' (A6 (List.range' 13 9) l) df->N a' (((w1.setCells gx (an*11) (k.cs mk).toList).setCells g3 0 [.slice (some ⟨gx,0,none⟩) (an+2) x18]).setCells gx ((an+1)*11) (v.cs mv).toList))
  (hN2: ∀a' (x18:Nat) (w1:World),C0 ((w.drewN 1).alloc (.cells ZA 53)) x18 w1->Sl 23 a' (A6 (List.range' 13 9) l) df->N a' (((w1.setCells g3 0 [.slice (some ⟨gx,0,none⟩) (an+2) x18]).setCells gx (an*11) (k.cs mk).toList).setCells gx ((an+1)*11) (v.cs mv).toList)):Rg N Q a w (W9 5):=
 Cd4 (.rd 1 (.rd 2 (.e2 0 (.rd 3 (.rd 8 (.e1 4 (.e1 5 (.rd 6 (.e2 7 (.rd 9 (.e2 10 (.e1 11 .fin) 11 [.sto,.sto] (.e1 10 .fin))) 11 [.sto,.sto,.val (pF gx ((an+1)*11)),.sto] (.e1 7 (.rd 9 (.e1 10 .fin))))))))) 4 [.raw,.val (.slice ad an ac),.ari,.apxw Nat (fun c=>.slice (some ⟨gx,0,none⟩) (an+2) c) C0,.val (pF gx (an*11)),.sto,.val (pF gx ((an+1)*11)),.sto,.sto] (.e1 0 (.rd 3 (.rd 8 (.e1 5 (.rd 6 (.e2 7 (.rd 9 (.e2 10 (.e1 11 .fin) 11 [.sto,.sto] (.e1 10 .fin))) 11 [.sto,.sto,.val (pF gx ((an+1)*11)),.sto] (.e1 7 (.rd 9 (.e1 10 .fin)))))))))))) C [] (List.range' 13 9) [.val (.agg (k.cs mk)),.val (.agg (v.cs mv)),.val (.slice ad an ac),.ari,.raw,.apxw Nat (fun c=>.slice (some ⟨gx,0,none⟩) (an+2) c) C0,.val (pF gx (an*11)),.sto,.val (pF gx ((an+1)*11)),.sto,.sto] hs (Zc e4<|Zc e5<|Zc e3 Zz) (aI c0 (aI (fun u hu=>(l1 u hu).run) (aI c0 (aI (fun u hu=>(l2 u hu).run) (aI c0 (aI (aI l3.run (aI c0 (aI c0 (aI h4 (aI c0 (aI c5 (aI k6 (fun(x18:Nat) (w1:World) (hc0:C0 ((w.drewN 1).alloc (.cells ZA 53)) x18 w1)=>(aI (c7 x18 w1 hc0) (aI (i8 x18 w1 hc0) (aI (c7 x18 w1 hc0) (aI (aI (s9 x18 w1 hc0) (aI (c10 x18 w1 hc0) (aI (i11 x18 w1 hc0) (aI (c10 x18 w1 hc0) (aI (aI (s12 x18 w1 hc0) (aI (c13 x18 w1 hc0) (aI (s14 x18 w1 hc0) (aI (c15 x18 w1 hc0) (fun a'=>hN0 a' x18 w1 hc0))))) (aI (s16 x18 w1 hc0) (aI (c17 x18 w1 hc0) (aI (s18 x18 w1 hc0) (aI (c19 x18 w1 hc0) (fun a'=>hN1 a' x18 w1 hc0)))))))))) (aI (s20 x18 w1 hc0) (aI (c21 x18 w1 hc0) (aI (s22 x18 w1 hc0) (aI (c23 x18 w1 hc0) (aI (i11 x18 w1 hc0) (aI (c23 x18 w1 hc0) (aI (s24 x18 w1 hc0) (aI (c25 x18 w1 hc0) (fun a'=>hN2 a' x18 w1 hc0))))))))))))))))))))) (aI c5 (aI l26.run (aI c5 (aI c5 (aI h4 (aI c5 (aI k6 (fun(x18:Nat) (w1:World) (hc0:C0 ((w.drewN 1).alloc (.cells ZA 53)) x18 w1)=>(aI (c7 x18 w1 hc0) (aI (i8 x18 w1 hc0) (aI (c7 x18 w1 hc0) (aI (aI (s9 x18 w1 hc0) (aI (c10 x18 w1 hc0) (aI (i11 x18 w1 hc0) (aI (c10 x18 w1 hc0) (aI (aI (s12 x18 w1 hc0) (aI (c13 x18 w1 hc0) (aI (s14 x18 w1 hc0) (aI (c15 x18 w1 hc0) (fun a'=>hN0 a' x18 w1 hc0))))) (aI (s16 x18 w1 hc0) (aI (c17 x18 w1 hc0) (aI (s18 x18 w1 hc0) (aI (c19 x18 w1 hc0) (fun a'=>hN1 a' x18 w1 hc0)))))))))) (aI (s20 x18 w1 hc0) (aI (c21 x18 w1 hc0) (aI (s22 x18 w1 hc0) (aI (c23 x18 w1 hc0) (aI (i11 x18 w1 hc0) (aI (c23 x18 w1 hc0) (aI (s24 x18 w1 hc0) (aI (c25 x18 w1 hc0) (fun a'=>hN2 a' x18 w1 hc0))))))))))))))))))))))))))) Zk
end Go.Proofs.YtbjegfpfmnleeaaGreatDoor
