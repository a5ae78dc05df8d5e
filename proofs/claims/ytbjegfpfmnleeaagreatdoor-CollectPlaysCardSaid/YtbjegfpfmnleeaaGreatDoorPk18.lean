/-
   Written by an AI agent.
-/
import Derived.Test.YtbjegfpfmnleeaaGreatDoorPk13
import Derived.Shelf.Small.Bits
import Derived.Shelf.Small.Wraps
import Derived.Shelf.Strconv.Itoa0
import Derived.Shelf.Strconv.Itoa1
import Derived.Shelf.LaysM
import Derived.Shelf.Strconv.Itoa2
import Derived.Shelf.Strconv.Itoa3
import Derived.Shelf.Sort.Plain
import Derived.Shelf.Slices.Turned
import Derived.Shelf.Slices.Reverse
import Derived.Shelf.Slices.Equal
import Derived.Ground.Names2Prog
import Derived.Shelf.Slices.Clone
import Derived.Shelf.Slices.CompactI
import Derived.Shelf.Slices.SearchI
import Derived.Shelf.Slices.Cells
import Derived.Shelf.Slices.In.SortNone
import Derived.Shelf.Slices.Empties2
import Derived.Ground.SlgnProg
import Derived.Shelf.SlicesE.Reverse
import Derived.Shelf.SlicesE.Clone
import Derived.Shelf.SlIterI.Nil
import Derived.Shelf.SortM.Plain
import Derived.Shelf.SortM.SortNone
import Derived.Ground.GgzProg
import Derived.Ground.SlgmProg
namespace Go.Proofs.YtbjegfpfmnleeaaGreatDoor
open Go.RowKit Go.Sort
set_option maxRecDepth 100000
variable {a:Act} {w:World} {df:List Deferred} {N:Act->World->Prop} {Q:Exit->Act->World->Prop} {l:List (Nat×Value)}
variable {C0:World->Prop} {C1:(Dt×Dm)->World->Prop} {c:Int} {d:Dt} {g3 g4 g8 gh i pc pn sc sn:Nat} {m:Dm} {pd sd:Option Addr}
noncomputable def Bj6 (n:Nat):Code:=((Tryz.f59.body.bind (D4 n)).getD .skip)
noncomputable def Au7:Code:=(.seq (Bj6 0) (.seq (.seq (Bj6 1) (.cond (.tmp 13) (.seq (Bj6 2) .ret) .skip)) (.seq (Bj6 3) .ret)))
theorem Bj7:Tryz.f59.body=some Au7:=by kernel_rfl
theorem Dz6(hs:Sl 28 a l df)(e1:Lk l 1 (.agg (d.cs m)))
  (hN: ∀a',Sl 28 a' ((3,pT w.heap.size)::(4,pT ((w.alloc (.cells (d.cs m) 53)).heap.size))::(5,.nilIface)::A6 [3,4,5] l) df->N a' ((w.alloc (.cells (d.cs m) 53)).alloc (.cells zA 53))):Rg N Q a w (Bj6 0):=
 reg [3,4,5] [3,4,5] [.raw,.raw] hs (Zc e1 Zz) hN Zk
theorem Dz7{k:Int}{b12:Bool}(hs:Sl 28 a l df)(e3:Lk l 3 (pT g3))(l0:Lp 53 (pT g3) (.agg (d.cs m)) w)(k1:Cl 65 #[.agg (d.cs m)] w (.bool true) C0)(l2: ∀(w1:World),C0 w1->Lp 3 (pT g3) (ii k) w1)(h3:decide (k≠8)=b12)
  (hN: ∀a' (w1:World),C0 w1->Sl 28 a' ((13,.bool b12)::A6 (List.range' 6 8) l) df->N a' w1):Rg N Q a w (Bj6 1):=
 reg [13] (List.range' 6 8) [.val (.agg (d.cs m)),.ret (.bool true) C0,.val (ii k),.bit b12] hs (Zc e3 Zz) (aI l0.run (aI k1 (fun(w1:World) (hc0:C0 w1)=>(aI (l2 w1 hc0).run (aI h3 (fun a'=>hN a' w1 hc0)))))) Zk
theorem Dz8{C:World->Prop}{ty:ByteArray}{C0:Dm->World->Prop}(hs:Sl 28 a l df)(e0:Lk l 0 (pT gh))(e3:Lk l 3 (pT g3))(e4:Lk l 4 (pT g4))(c0:C (w.drewN 1))(l1: ∀u,C u->Lp 53 (pT g3) (.agg (d.cs m)) u)(l2: ∀u,C u->Lp 9 (pF g3 1) (.string ty) u)(k3:Ca 68 #[.agg (d.cs m)] (w.drewN 1) fun e w'=> ∃q:Dm,e=.returned (.agg (d.cs q))/\C0 q w')(c4: ∀(q:Dm) (w1:World),C0 q w1->C w1)(c5: ∀(q:Dm) (w1:World),C0 q w1->C (w1.alloc (.cells (d.cs q) 130)))(k6: ∀(q:Dm) (w1:World),C0 q w1->Ca 88 #[pT gh,.iface 126 (pT w1.heap.size),.agg #[ii 9,.string ty,ii 0,.int .u64 0,.string (⟨#[]⟩),ii 0,ii 0,ii 0,ii 0,.slice none 0 0,.slice none 0 0]] (w1.alloc (.cells (d.cs q) 130)) fun e w'=> ∃y:(Dt×Dm),e=.returned (.tuple #[.agg (y.1.cs y.2),.nilIface])/\C1 y w')(c7: ∀(q:Dm) (w1:World),C0 q w1->∀(y:(Dt×Dm)) (w2:World),C1 y w2->C w2)(s8: ∀(q:Dm) (w1:World),C0 q w1->∀(y:(Dt×Dm)) (w2:World),C1 y w2->So 53 g4 0 (.agg (y.1.cs y.2)) w2 (y.1.cs y.2).toList)
  (hN: ∀a' (q:Dm) (w1:World) (y:(Dt×Dm)) (w2:World),C0 q w1->C1 y w2->Sl 28 a' ((5,.nilIface)::A6 (5::List.range' 16 12) l) df->N a' (w2.setCells g4 0 (y.1.cs y.2).toList)):Rg N Q a w (Bj6 3):=
 Sq 12 [(true,0),(true,1),(true,6),(true,7),(true,8),(false,2),(false,3),(false,4),(false,5),(false,9),(true,10),(true,11)] C [5] (5::List.range' 16 12) [.val (.agg (d.cs m)),.val (.string ty),.val (.agg #[ii 9,.string ty,ii 0,.int .u64 0,.string (⟨#[]⟩),ii 0,ii 0,ii 0,ii 0,.slice none 0 0,.slice none 0 0]),.ex (Dm) (fun q=>.agg (d.cs q)) C0,.raw,.raw,.raw,.ex ((Dt×Dm)) (fun y=>.tuple #[.agg (y.1.cs y.2),.nilIface]) C1,.sto] hs (Zc e0<|Zc e3<|Zc e4 Zz) (aI c0 (aI c0 (aI (fun u hu=>(l1 u hu).run) (aI c0 (aI c0 (aI (fun u hu=>(l2 u hu).run) (aI c0 (aI (fun(w':World)=>(by kernel_rfl:(Instr.build 53 #[(0,ii 9),(1,.string ty)]).run Tryz.prog w'=.ok (.agg #[ii 9,.string ty,ii 0,.int .u64 0,.string (⟨#[]⟩),ii 0,ii 0,ii 0,ii 0,.slice none 0 0,.slice none 0 0]) w')) (aI c0 (aI k3 (fun(q:Dm) (w1:World) (hc0:C0 q w1)=>(aI (c4 q w1 hc0) (aI (c4 q w1 hc0) (aI (c5 q w1 hc0) (aI (c5 q w1 hc0) (aI (k6 q w1 hc0) (fun(y:(Dt×Dm)) (w2:World) (hc1:C1 y w2)=>(aI (c7 q w1 hc0 y w2 hc1) (aI (c7 q w1 hc0 y w2 hc1) (aI (c7 q w1 hc0 y w2 hc1) (aI (s8 q w1 hc0 y w2 hc1) (fun a'=>hN a' q w1 y w2 hc0 hc1)))))))))))))))))))))) Zk
noncomputable def Bj8 (n:Nat):Code:=((Tryz.f60.body.bind (D4 n)).getD .skip)
noncomputable def Au8:Code:=(.seq (Bj8 0) (.seq (.seq (Bj8 1) (.cond (.tmp 13) (.seq (Bj8 2) .ret) .skip)) (.seq (Bj8 3) .ret)))
theorem Bj9:Tryz.f60.body=some Au8:=by kernel_rfl
theorem Dz9(hs:Sl 31 a l df)
  (hN: ∀a',Sl 31 a' ((4,pT w.heap.size)::(5,.nilIface)::A6 [4,5] l) df->N a' (w.alloc (.cells zA 53))):Rg N Q a w (Bj8 0):=
 reg [4,5] [4,5] [.raw] hs Zz hN Zk
theorem Bk0(hs:Sl 31 a l df)(e1:Lk l 1 (.slice sd sn sc))(h0:decide ((1048576:Int)<(sn:Int))=false)(k1:Cl 89 #[.slice sd sn sc] w (.bool true) C0)
  (hN: ∀a' (w1:World),C0 w1->Sl 31 a' ((13,.bool false)::A6 (List.range' 6 8) l) df->N a' w1):Rg N Q a w (Bj8 1):=
 reg [13] (List.range' 6 8) [.bit false,.ret (.bool true) C0] hs (Zc e1 Zz) (aI h0 (aI k1 (fun(w1:World) (hc0:C0 w1)a'=>hN a' w1 hc0))) Zk
theorem Ea0{C0:S3->World->Prop}(hs:Sl 31 a l df)(e0:Lk l 0 (pT gh))(e1:Lk l 1 (.slice sd sn sc))(e4:Lk l 4 (pT g4))(k0:Ca 90 #[.slice sd sn sc] w fun e w'=> ∃q:S3,e=.returned (.slice q.d q.n q.c)/\C0 q w')(k1: ∀(q:S3) (w1:World),C0 q w1->Ca 88 #[pT gh,.iface 146 (pT w1.heap.size),.agg #[ii 5,.string (⟨#[108,105,115,116]⟩),ii 0,.int .u64 0,.string (⟨#[]⟩),ii 0,ii 0,ii (sn:Int),ii (sn:Int),.slice none 0 0,.slice none 0 0]] (w1.alloc (.cells #[.slice q.d q.n q.c] 148)) fun e w'=> ∃y:(Dt×Dm),e=.returned (.tuple #[.agg (y.1.cs y.2),.nilIface])/\C1 y w')(s2: ∀(q:S3) (w1:World),C0 q w1->∀(y:(Dt×Dm)) (w2:World),C1 y w2->So 53 g4 0 (.agg (y.1.cs y.2)) w2 (y.1.cs y.2).toList)
  (hN: ∀a' (q:S3) (w1:World) (y:(Dt×Dm)) (w2:World),C0 q w1->C1 y w2->Sl 31 a' ((5,.nilIface)::A6 (5::List.range' 16 15) l) df->N a' (w2.setCells g4 0 (y.1.cs y.2).toList)):Rg N Q a w (Bj8 3):=
 reg [5] (5::List.range' 16 15) [.ex (S3) (fun q=>.slice q.d q.n q.c) C0,.raw,.raw,.raw,.raw,.raw,.ex ((Dt×Dm)) (fun y=>.tuple #[.agg (y.1.cs y.2),.nilIface]) C1,.sto] hs (Zc e0<|Zc e1<|Zc e4 Zz) (aI k0 (fun(q:S3) (w1:World) (hc0:C0 q w1)=>(aI (k1 q w1 hc0) (fun(y:(Dt×Dm)) (w2:World) (hc1:C1 y w2)=>(aI (s2 q w1 hc0 y w2 hc1) (fun a'=>hN a' q w1 y w2 hc0 hc1)))))) Zk
noncomputable def Cd2 (n:Nat):Code:=((Tryz.f61.body.bind (D4 n)).getD .skip)
noncomputable def Au9:Code:=(.seq (Cd2 0) (.seq (Cd2 1) (.seq (Cd2 2) .ret)))
theorem Bk1:Tryz.f61.body=some Au9:=by kernel_rfl
theorem Ea1(hs:Sl 16 a l df)
  (hN: ∀a',Sl 16 a' ((2,pT w.heap.size)::A6 [2] l) df->N a' (w.alloc (.cells zA 53))):Rg N Q a w (Cd2 0):=
 reg [2] [2] [.raw] hs Zz hN Zk
theorem Ea2{C0:Nat->World->Prop}(hs:Sl 16 a l df)(e0:Lk l 0 (pT gh))(k0:Ca 91 #[] w fun e w'=> ∃mb:Nat,e=.returned (pT mb)/\C0 mb w')(k1: ∀(mb:Nat) (w1:World),C0 mb w1->Ca 88 #[pT gh,.iface 115 (pT w1.heap.size),.agg #[ii 6,.string (⟨#[109,97,112]⟩),ii 0,.int .u64 0,.string (⟨#[]⟩),ii 0,ii 0,ii 0,ii 0,.slice none 0 0,.slice none 0 0]] (w1.alloc (.cells #[pT mb] 119)) fun e w'=> ∃y:(Dt×Dm),e=.returned (.tuple #[.agg (y.1.cs y.2),.nilIface])/\C1 y w')(s2: ∀(mb:Nat) (w1:World),C0 mb w1->∀(y:(Dt×Dm)) (w2:World),C1 y w2->So 53 w2.heap.size 0 (.agg (y.1.cs y.2)) (w2.alloc (.cells zA 53)) (y.1.cs y.2).toList)
  (hN: ∀a' (mb:Nat) (w1:World) (y:(Dt×Dm)) (w2:World),C0 mb w1->C1 y w2->Sl 16 a' ((3,pT w2.heap.size)::A6 (List.range' 3 12) l) df->N a' ((w2.alloc (.cells zA 53)).setCells w2.heap.size 0 (y.1.cs y.2).toList)):Rg N Q a w (Cd2 1):=
 reg [3] (List.range' 3 12) [.ex (Nat) (fun mb=>pT mb) C0,.raw,.raw,.raw,.raw,.ex ((Dt×Dm)) (fun y=>.tuple #[.agg (y.1.cs y.2),.nilIface]) C1,.raw,.sto] hs (Zc e0 Zz) (aI k0 (fun(mb:Nat) (w1:World) (hc0:C0 mb w1)=>(aI (k1 mb w1 hc0) (fun(y:(Dt×Dm)) (w2:World) (hc1:C1 y w2)=>(aI (s2 mb w1 hc0 y w2 hc1) (fun a'=>hN a' mb w1 y w2 hc0 hc1)))))) Zk
theorem Ea3{g2:Nat}(hs:Sl 16 a l df)(e3:Lk l 3 (pT g3))(e2:Lk l 2 (pT g2))(l0:Lp 53 (pT g3) (.agg (d.cs m)) w)(s1:So 53 g2 0 (.agg (d.cs m)) w (d.cs m).toList)
  (hN: ∀a',Sl 16 a' (A6 [15] l) df->N a' (w.setCells g2 0 (d.cs m).toList)):Rg N Q a w (Cd2 2):=
 reg [] [15] [.val (.agg (d.cs m)),.sto] hs (Zc e3<|Zc e2 Zz) (aI l0.run (aI s1 hN)) Zk
noncomputable def Bk2 (n:Nat):Code:=((Tryz.f62.body.bind (D4 n)).getD .skip)
noncomputable def Av0:Code:=(.seq (Bk2 0) (.seq (.seq (Bk2 1) (.cond (.tmp 8) (.seq (Bk2 2) .ret) .skip)) (.seq (Bk2 3) .ret)))
theorem Bk3:Tryz.f62.body=some Av0:=by kernel_rfl
theorem Ea4(hs:Sl 19 a l df)(e1:Lk l 1 (.agg (d.cs m)))
  (hN: ∀a',Sl 19 a' ((3,pT w.heap.size)::(4,ii 0)::(5,.nilIface)::A6 [3,4,5] l) df->N a' (w.alloc (.cells (d.cs m) 53))):Rg N Q a w (Bk2 0):=
 reg [3,4,5] [3,4,5] [.raw] hs (Zc e1 Zz) hN Zk
theorem Ea5(hs:Sl 19 a l df)(e3:Lk l 3 (pT g3))(l0:Lp 53 (pT g3) (.agg (d.cs m)) w)(k1:Cl 65 #[.agg (d.cs m)] w (.bool true) C0)
  (hN: ∀a' (w1:World),C0 w1->Sl 19 a' ((8,.bool false)::A6 [6,7,8] l) df->N a' w1):Rg N Q a w (Bk2 1):=
 reg [8] [6,7,8] [.val (.agg (d.cs m)),.ret (.bool true) C0] hs (Zc e3 Zz) (aI l0.run (aI k1 (fun(w1:World) (hc0:C0 w1)a'=>hN a' w1 hc0))) Zk
theorem Ea6{n:Nat}{C0:Dm->World->Prop}{C1:World->Prop}(hs:Sl 19 a l df)(e0:Lk l 0 (pT gh))(e3:Lk l 3 (pT g3))(l0:Lp 53 (pT g3) (.agg (d.cs m)) w)(k1:Ca 68 #[.agg (d.cs m)] w fun e w'=> ∃q:Dm,e=.returned (.agg (d.cs q))/\C0 q w')(k2: ∀(q:Dm) (w1:World),C0 q w1->Cl 92 #[pT gh,.iface 121 (pT w1.heap.size)] (w1.alloc (.cells (d.cs q) 124)) (.tuple #[ii (n:Int),.nilIface]) C1)
  (hN: ∀a' (q:Dm) (w1:World) (w2:World),C0 q w1->C1 w2->Sl 19 a' ((4,ii (n:Int))::(5,.nilIface)::A6 (4::5::List.range' 10 9) l) df->N a' w2):Rg N Q a w (Bk2 3):=
 reg [4,5] (4::5::List.range' 10 9) [.val (.agg (d.cs m)),.ex (Dm) (fun q=>.agg (d.cs q)) C0,.raw,.raw,.raw,.ret (.tuple #[ii (n:Int),.nilIface]) C1] hs (Zc e0<|Zc e3 Zz) (aI l0.run (aI k1 (fun(q:Dm) (w1:World) (hc0:C0 q w1)=>(aI (k2 q w1 hc0) (fun(w2:World) (hc1:C1 w2)a'=>hN a' q w1 w2 hc0 hc1))))) Zk
noncomputable def Ek (n:Nat):Code:=((Tryz.f63.body.bind (D4 n)).getD .skip)
noncomputable def Es7:Code:=(.seq (Ek 2) (.seq (.cond (.tmp 17) .skip (.exit 0)) (.seq (.block 1 (.seq (Ek 3) (.seq (Ek 4) (.seq (Ek 5) (.cond (.tmp 31) (.seq (Ek 6) .ret) .skip))))) (Ek 7))))
noncomputable def Av1:Code:=(.seq (Ek 0) (.seq (.seq (Ek 1) (.block 0 (.loop Es7))) (.seq (.seq (Ek 8) (.cond (.tmp 41) (.seq (Ek 9) .ret) .skip)) (.seq (Ek 10) .ret))))
theorem Bk4:Tryz.f63.body=some Av1:=by kernel_rfl
theorem Ea7(hs:Sl 57 a l df)
  (hN: ∀a',Sl 57 a' ((8,pT w.heap.size)::(9,.nilIface)::A6 [8,9] l) df->N a' (w.alloc (.cells zA 53))):Rg N Q a w (Ek 0):=
 reg [8,9] [8,9] [.raw] hs Zz hN Zk
theorem Ea8(hs:Sl 57 a l df)(e2:Lk l 2 (.slice pd pn pc))
  (hN: ∀a',Sl 57 a' ((14,.slice pd pn pc)::(15,ii (pn:Int))::(16,ii 0)::A6 [14,15,16] l) df->N a' w):Rg N Q a w (Ek 1):=
 reg [14,15,16] [14,15,16] [] hs (Zc e2 Zz) hN Zk
theorem Ck1{b17:Bool}(hs:Sl 57 a l df)(e16:Lk l 16 (ii (i:Int)))(e15:Lk l 15 (ii (pn:Int)))(h0:decide ((i:Int)<(pn:Int))=b17)
  (hN: ∀a',Sl 57 a' ((17,.bool b17)::A6 [17] l) df->N a' w):Rg N Q a w (Ek 2):=
 reg [17] [17] [.bit b17] hs (Zc e16<|Zc e15 Zz) (aI h0 hN) Zk
theorem Ea9{g18 o18:Nat}{o:Int}(hs:Sl 57 a l df)(e14:Lk l 14 (.slice pd pn pc))(e16:Lk l 16 (ii (i:Int)))(i0:Ix 24 (.slice pd pn pc) (ii (i:Int)) (pF g18 o18))(l1:Lp 3 (pF g18 o18) (ii o) w)
  (hN: ∀a',Sl 57 a' ((11,ii o)::A6 [11,18,19] l) df->N a' w):Rg N Q a w (Ek 3):=
 reg [11] [11,18,19] [.val (pF g18 o18),.val (ii o)] hs (Zc e14<|Zc e16 Zz) (aI (i0 w) (aI l1.run hN)) Zk
theorem Ck2{b13:Bool}(hs:Sl 57 a l df)(e13:Lk l 13 (.bool b13))
  (hN: ∀a',Sl 57 a' ((31,.bool (!b13))::A6 [30,31] l) df->N a' w):Rg N Q a w (Ek 5):=
 reg [31] [30,31] [] hs (Zc e13 Zz) hN Zk
theorem Eb0(hs:Sl 57 a l df)(e16:Lk l 16 (ii (i:Int)))(h0: -9223372036854775808<=(i:Int)+1/\(i:Int)+1<=9223372036854775807)
  (hN: ∀a',Sl 57 a' ((16,ii ((i:Int)+1))::A6 [16,34] l) df->N a' w):Rg N Q a w (Ek 7):=
 reg [16] [16,34] [.ari] hs (Zc e16 Zz) (aI h0 hN) Zk
theorem Eb1{bm:Nat}{n11:Int}{v:Value}{p:Option Addr}{b:Bool}(hs:Sl 57 a l df)(e0:Lk l 0 (pT gh))(e11:Lk l 11 (ii n11))(l0:Lp 79 (pT gh) (.map (some bm)) w)(l1:Lkp Tryz.prog 79 (.map (some bm)) (ii n11) false (v) w)(i2: ∀w,(Instr.typeAssert (v) 81 121 true).run Tryz.prog w=.ok (.tuple #[.pointer p,.bool b]) w)
  (hN: ∀a',Sl 57 a' ((13,.bool b)::A6 (12::13::List.range' 20 10) l) df->N a' w):Rg N Q a w (Ek 4):=
 reg [13] (12::13::List.range' 20 10) [.val (.map (some bm)),.val (v),.val (.tuple #[.pointer p,.bool b])] hs (Zc e0<|Zc e11 Zz) (aI l0.run (aI l1.run (aI (i2 w) hN))) Zk
theorem Eb2{C0:Nat->World->Prop}(hs:Sl 57 a l df)(e8:Lk l 8 (pT g8))(k0:Ca 66 #[ii 1] w fun e w'=> ∃y:Nat,e=.returned (.iface 156 (pT y))/\C0 y w')(s1: ∀(y:Nat) (w1:World),C0 y w1->So 53 g8 0 (.agg zA) w1 [ii 0,.string (⟨#[]⟩),ii 0,.int .u64 0,.string (⟨#[]⟩),ii 0,ii 0,ii 0,ii 0,.slice none 0 0,.slice none 0 0])
  (hN: ∀a' (y:Nat) (w1:World),C0 y w1->Sl 57 a' ((9,.iface 156 (pT y))::A6 [9,32,33] l) df->N a' (w1.setCells g8 0 [ii 0,.string (⟨#[]⟩),ii 0,.int .u64 0,.string (⟨#[]⟩),ii 0,ii 0,ii 0,ii 0,.slice none 0 0,.slice none 0 0])):Rg N Q a w (Ek 6):=
 reg [9] [9,32,33] [.raw,.ex (Nat) (fun y=>.iface 156 (pT y)) C0,.sto] hs (Zc e8 Zz) (aI k0 (fun(y:Nat) (w1:World) (hc0:C0 y w1)=>(aI (s1 y w1 hc0) (fun a'=>hN a' y w1 hc0)))) Zk
theorem Bk5(hs:Sl 57 a l df)(e1:Lk l 1 (ii c))(e3:Lk l 3 (.slice sd sn sc))(h0:decide (c<0)=false)(k1:Cl 89 #[.slice sd sn sc] w (.bool true) C0)
  (hN: ∀a' (w1:World),C0 w1->Sl 57 a' ((41,.bool false)::A6 (List.range' 35 7) l) df->N a' w1):Rg N Q a w (Ek 8):=
 reg [41] (List.range' 35 7) [.bit false,.ret (.bool true) C0] hs (Zc e1<|Zc e3 Zz) (aI h0 (aI k1 (fun(w1:World) (hc0:C0 w1)a'=>hN a' w1 hc0))) Zk
theorem Ck3{C0:S3->World->Prop}{C1:World->S3->World->Prop}{C2:(Dt×Dm)->World->Prop}(hs:Sl 57 a l df)(e0:Lk l 0 (pT gh))(e1:Lk l 1 (ii c))(e2:Lk l 2 (.slice pd pn pc))(e3:Lk l 3 (.slice sd sn sc))(e8:Lk l 8 (pT g8))(k0:Ca 39 #[.slice pd pn pc] w fun e w'=> ∃p:S3,e=.returned (.slice p.d p.n p.c)/\C0 p w')(k1: ∀(p:S3) (w1:World),C0 p w1->Ca 90 #[.slice sd sn sc] w1 fun e w'=> ∃q:S3,e=.returned (.slice q.d q.n q.c)/\C1 w1 q w')(k2: ∀(p:S3) (w1:World),C0 p w1->∀(q:S3) (w2:World),C1 w1 q w2->Ca 88 #[pT gh,.iface 151 (pT w2.heap.size),.agg #[ii 7,.string (⟨#[102,117,110,99]⟩),ii 0,.int .u64 0,.string (⟨#[]⟩),ii 0,ii 0,ii 0,ii 0,.slice none 0 0,.slice none 0 0]] (w2.alloc (.cells #[ii c,.slice p.d p.n p.c,.slice q.d q.n q.c] 153)) fun e w'=> ∃y:(Dt×Dm),e=.returned (.tuple #[.agg (y.1.cs y.2),.nilIface])/\C2 y w')(s3: ∀(p:S3) (w1:World),C0 p w1->∀(q:S3) (w2:World),C1 w1 q w2->∀(y:(Dt×Dm)) (w3:World),C2 y w3->So 53 g8 0 (.agg (y.1.cs y.2)) w3 (y.1.cs y.2).toList)
  (hN: ∀a' (p:S3) (w1:World) (q:S3) (w2:World) (y:(Dt×Dm)) (w3:World),C0 p w1->C1 w1 q w2->C2 y w3->Sl 57 a' ((9,.nilIface)::A6 (9::List.range' 44 13) l) df->N a' (w3.setCells g8 0 (y.1.cs y.2).toList)):Rg N Q a w (Ek 10):=
 reg [9] (9::List.range' 44 13) [.ex (S3) (fun p=>.slice p.d p.n p.c) C0,.exw (S3) (fun q=>.slice q.d q.n q.c) C1,.raw,.raw,.raw,.raw,.ex ((Dt×Dm)) (fun y=>.tuple #[.agg (y.1.cs y.2),.nilIface]) C2,.sto] hs (Zc e0<|Zc e1<|Zc e2<|Zc e3<|Zc e8 Zz) (aI k0 (fun(p:S3) (w1:World) (hc0:C0 p w1)=>(aI (k1 p w1 hc0) (fun(q:S3) (w2:World) (hc1:C1 w1 q w2)=>(aI (k2 p w1 hc0 q w2 hc1) (fun(y:(Dt×Dm)) (w3:World) (hc2:C2 y w3)=>(aI (s3 p w1 hc0 q w2 hc1 y w3 hc2) (fun a'=>hN a' p w1 q w2 y w3 hc0 hc1 hc2)))))))) Zk
noncomputable def U6 (n:Nat):Code:=((Tryz.f122.body.bind (D4 n)).getD .skip)
noncomputable def Ck4:Code:=(.seq (U6 2) (.seq (.cond (.tmp 9) .skip (.exit 0)) (.seq (.block 1 (.seq (U6 3) (.seq (U6 4) (.cond (.tmp 16) (.seq (U6 5) .ret) .skip)))) (U6 6))))
noncomputable def Ua:Code:=(.seq (U6 0) (.seq (.seq (U6 1) (.block 0 (.loop Ck4))) (.seq (U6 7) .ret)))
theorem Af7:Tryz.f122.body=some Ua:=by kernel_rfl
theorem Ck5(hs:Sl 19 a l df)
  (hN: ∀a',Sl 19 a' ((4,ii 0)::A6 [4] l) df->N a' w):Rg N Q a w (U6 0):=
 Zg [4] hs hN
theorem Ck6(hs:Sl 19 a l df)(e0:Lk l 0 (.slice sd sn sc))
  (hN: ∀a',Sl 19 a' ((7,ii (sn:Int))::(8,ii 0)::A6 [6,7,8] l) df->N a' w):Rg N Q a w (U6 1):=
 reg [7,8] [6,7,8] [] hs (Zc e0 Zz) hN Zk
theorem Av2{b9:Bool}(hs:Sl 19 a l df)(e8:Lk l 8 (ii (i:Int)))(e7:Lk l 7 (ii (sn:Int)))(h0:decide ((i:Int)<(sn:Int))=b9)
  (hN: ∀a',Sl 19 a' ((9,.bool b9)::A6 [9] l) df->N a' w):Rg N Q a w (U6 2):=
 reg [9] [9] [.bit b9] hs (Zc e8<|Zc e7 Zz) (aI h0 hN) Zk
theorem Ck7(hs:Sl 19 a l df)(e8:Lk l 8 (ii (i:Int)))
  (hN: ∀a',Sl 19 a' ((5,ii (i:Int))::A6 [5,10] l) df->N a' w):Rg N Q a w (U6 3):=
 reg [5] [5,10] [] hs (Zc e8 Zz) hN Zk
theorem Ck8{g14 o14:Nat}{b16:Bool}(hs:Sl 19 a l df)(e1:Lk l 1 (.func (.func 110) #[] #[]))(e0:Lk l 0 (.slice sd sn sc))(e5:Lk l 5 (ii (i:Int)))(i0:Ix 23 (.slice sd sn sc) (ii (i:Int)) (pF g14 o14))(l1:Lp 53 (pF g14 o14) (.agg (d.cs m)) w)(k2:Cl 110 #[.agg (d.cs m)] w (.bool b16) C0)
  (hN: ∀a' (w1:World),C0 w1->Sl 19 a' ((16,.bool b16)::A6 [11,12,13,14,15,16] l) df->N a' w1):Rg N Q a w (U6 4):=
 reg [16] [11,12,13,14,15,16] [.val (pF g14 o14),.val (.agg (d.cs m)),.ret (.bool b16) C0] hs (Zc e1<|Zc e0<|Zc e5 Zz) (aI (i0 w) (aI l1.run (aI k2 (fun(w1:World) (hc0:C0 w1)a'=>hN a' w1 hc0)))) Zk
theorem Ck9(hs:Sl 19 a l df)(e8:Lk l 8 (ii (i:Int)))(h0: -9223372036854775808<=(i:Int)+1/\(i:Int)+1<=9223372036854775807)
  (hN: ∀a',Sl 19 a' ((8,ii ((i:Int)+1))::A6 [8,18] l) df->N a' w):Rg N Q a w (U6 6):=
 reg [8] [8,18] [.ari] hs (Zc e8 Zz) (aI h0 hN) Zk
theorem Cl0(hs:Sl 19 a l df)
  (hN: ∀a',Sl 19 a' ((4,ii (-1))::A6 [4] l) df->N a' w):Rg N Q a w (U6 7):=
 Zg [4] hs hN
noncomputable def Af8 (n:Nat):Code:=((Tryz.f109.body.bind (D4 n)).getD .skip)
noncomputable def Ub:Code:=(.seq (Af8 0) (.seq (Af8 1) .ret))
theorem Af9:Tryz.f109.body=some Ub:=by kernel_rfl
theorem Cl1(hs:Sl 9 a l df)
  (hN: ∀a',Sl 9 a' ((4,.bool false)::A6 [4] l) df->N a' w):Rg N Q a w (Af8 0):=
 Zg [4] hs hN
theorem Cl2{r7:Int}{b8:Bool}(hs:Sl 9 a l df)(e0:Lk l 0 (.slice sd sn sc))(e1:Lk l 1 (.func (.func 110) #[] #[]))(k0:Cl 122 #[.slice sd sn sc,.func (.func 110) #[] #[]] w (ii r7) C0)(h1:decide ((0:Int)<=r7)=b8)
  (hN: ∀a' (w1:World),C0 w1->Sl 9 a' ((4,.bool b8)::A6 [4,5,6,7,8] l) df->N a' w1):Rg N Q a w (Af8 1):=
 reg [4] [4,5,6,7,8] [.ret (ii r7) C0,.bit b8] hs (Zc e0<|Zc e1 Zz) (aI k0 (fun(w1:World) (hc0:C0 w1)=>(aI h1 (fun a'=>hN a' w1 hc0)))) Zk
end Go.Proofs.YtbjegfpfmnleeaaGreatDoor
namespace Go.Proofs
open Go.Shelf
def Tryz.lays189_ren:Go.Shelf.Ren:=⟨fun | 189=>40 | 125=>58 | 257=>57 | 128=>86 | 129=>87 | 294=>77 | 295=>78 | 296=>79 | 297=>80 | 298=>81 | 299=>82 | 216=>83 | 300=>84 | 301=>85 | 328=>103 | 329=>104 | 330=>105 | 331=>106 | 332=>107 | 215=>108 | 343=>121 | n=>n,fun | 28=>24 | 3=>3 | 46=>100 | 0=>0 | 51=>143 | 53=>49 | 4=>4 | 183=>136 | 182=>135 | 131=>133 | 5=>5 | 9=>9 | 218=>178 | 222=>155 | 228=>200 | 229=>201 | n=>n,fun | n=>n⟩
theorem Tryz.lays189:Go.Proofs.Lays.n189 Tryz.prog Tryz.lays189_ren:={
 mixed:=by kernel_rfl
 f125:=Tryz.func58.trans (congrArg some (by kernel_rfl))
 f128:=Tryz.func86.trans (congrArg some (by kernel_rfl))
 f129:=Tryz.func87.trans (congrArg some (by kernel_rfl))
 f189:=Tryz.func40.trans (congrArg some (by kernel_rfl))
 f215:=Tryz.func108.trans (congrArg some (by kernel_rfl))
 f216:=Tryz.func83.trans (congrArg some (by kernel_rfl))
 f257:=Tryz.func57.trans (congrArg some (by kernel_rfl))
 f294:=Tryz.func77.trans (congrArg some (by kernel_rfl))
 f295:=Tryz.func78.trans (congrArg some (by kernel_rfl))
 f296:=Tryz.func79.trans (congrArg some (by kernel_rfl))
 f297:=Tryz.func80.trans (congrArg some (by kernel_rfl))
 f298:=Tryz.func81.trans (congrArg some (by kernel_rfl))
 f299:=Tryz.func82.trans (congrArg some (by kernel_rfl))
 f300:=Tryz.func84.trans (congrArg some (by kernel_rfl))
 f301:=Tryz.func85.trans (congrArg some (by kernel_rfl))
 f328:=Tryz.func103.trans (congrArg some (by kernel_rfl))
 f329:=Tryz.func104.trans (congrArg some (by kernel_rfl))
 f330:=Tryz.func105.trans (congrArg some (by kernel_rfl))
 f331:=Tryz.func106.trans (congrArg some (by kernel_rfl))
 f332:=Tryz.func107.trans (congrArg some (by kernel_rfl))
 f343:=Tryz.func121.trans (congrArg some (by kernel_rfl))
 t0:=Tryz.underlying0
 a0:=Tryz.isAgg0
 z0:=Tryz.sizeOf0
 v0:=Tryz.zeroValue0
 t3:=Tryz.underlying3
 a3:=Tryz.isAgg3
 z3:=Tryz.sizeOf3
 v3:=Tryz.zeroValue3
 t4:=Tryz.underlying4
 a4:=Tryz.isAgg4
 z4:=Tryz.sizeOf4
 v4:=Tryz.zeroValue4
 t5:=Tryz.underlying5
 a5:=Tryz.isAgg5
 z5:=Tryz.sizeOf5
 v5:=Tryz.zeroValue5
 t9:=Tryz.underlying9
 a9:=Tryz.isAgg9
 z9:=Tryz.sizeOf9
 v9:=Tryz.zeroValue9
 t28:=Tryz.underlying24
 a28:=Tryz.isAgg24
 z28:=Tryz.sizeOf24
 v28:=Tryz.zeroValue24
 t46:=Tryz.underlying100
 a46:=Tryz.isAgg100
 z46:=Tryz.sizeOf100
 v46:=Tryz.zeroValue100
 t51:=Tryz.underlying143
 a51:=Tryz.isAgg143
 z51:=Tryz.sizeOf143
 v51:=Tryz.zeroValue143
 t53:=Tryz.underlying49
 a53:=Tryz.isAgg49
 z53:=Tryz.sizeOf49
 v53:=Tryz.zeroValue49
 t131:=Tryz.underlying133
 a131:=Tryz.isAgg133
 z131:=Tryz.sizeOf133
 v131:=Tryz.zeroValue133
 t182:=Tryz.underlying135
 a182:=Tryz.isAgg135
 z182:=Tryz.sizeOf135
 v182:=Tryz.zeroValue135
 t183:=Tryz.underlying136
 a183:=Tryz.isAgg136
 z183:=Tryz.sizeOf136
 v183:=Tryz.zeroValue136
 t218:=Tryz.underlying178
 a218:=Tryz.isAgg178
 z218:=Tryz.sizeOf178
 v218:=Tryz.zeroValue178
 t222:=Tryz.underlying155
 a222:=Tryz.isAgg155
 z222:=Tryz.sizeOf155
 v222:=Tryz.zeroValue155
 t228:=Tryz.underlying200
 a228:=Tryz.isAgg200
 z228:=Tryz.sizeOf200
 v228:=Tryz.zeroValue200
 t229:=Tryz.underlying201
 a229:=Tryz.isAgg201
 z229:=Tryz.sizeOf201
 v229:=Tryz.zeroValue201}
open Go.Sort Go.RowKit in
theorem Tryz.slices_Sort_int(blk off cap:Nat)(zs:List Int)(w:World)(hH:Holds (Value.int .i64) w blk off zs.toArray)(hblk:blk<w.heap.size)(hsz:zs.length<4611686018427387904):
  Calls Tryz.prog 40 #[.slice (some ⟨blk,off,none⟩) zs.length cap] w fun e w'=>
   e=.returned (.tuple #[])/\∃n os,w'=grow (putRow (Value.int .i64) (Sort.ahead w n) blk off (zs.mergeSort fun x y=>decide (x<=y)).toArray) os:=Any.slices_Sort_int Tryz.lays189 blk off cap zs w hH hblk hsz
def Tryz.lays112_ren:Go.Shelf.Ren:=⟨fun | 112=>30 | n=>n,fun | 28=>24 | 3=>3 | 4=>4 | 0=>0 | n=>n,fun | n=>n⟩
theorem Tryz.lays112:Go.Proofs.Lays.n112 Tryz.prog Tryz.lays112_ren:={
 mixed:=by kernel_rfl
 f112:=Tryz.func30.trans (congrArg some (by kernel_rfl))
 t0:=Tryz.underlying0
 a0:=Tryz.isAgg0
 z0:=Tryz.sizeOf0
 v0:=Tryz.zeroValue0
 t3:=Tryz.underlying3
 a3:=Tryz.isAgg3
 z3:=Tryz.sizeOf3
 v3:=Tryz.zeroValue3
 t4:=Tryz.underlying4
 a4:=Tryz.isAgg4
 z4:=Tryz.sizeOf4
 v4:=Tryz.zeroValue4
 t28:=Tryz.underlying24
 a28:=Tryz.isAgg24
 z28:=Tryz.sizeOf24
 v28:=Tryz.zeroValue24}
open Go.RowKit Go.Lib Go.Sort in
theorem Tryz.slices_Reverse_int(blk off cap:Nat)(zs:List Int)(w:World)(hH:Holds (Value.int .i64) w blk off zs.toArray)(hsz:zs.length<=9223372036854775807):
  Calls Tryz.prog 30 #[.slice (some ⟨blk,off,none⟩) zs.length cap] w fun e w'=>e=.returned (.tuple #[])/\∃n,w'=putRow (Value.int .i64) (Sort.ahead w n) blk off zs.reverse.toArray:=Any.slices_Reverse_int Tryz.lays112 blk off cap zs w hH hsz
open Go.RowKit Go.Lib Go.Sort in
theorem Tryz.slices_Reverse_int_empty(a:Option Addr)(cap:Nat)(w:World):
  Calls Tryz.prog 30 #[.slice a 0 cap] w fun e w'=>e=.returned (.tuple #[])/\w'=w:=Any.slices_Reverse_int_empty Tryz.lays112 a cap w
def Tryz.laysNm215_ren:Go.Shelf.Ren:=⟨fun | 15=>39 | n=>n,fun | 22=>24 | 3=>3 | 4=>4 | n=>n,fun | n=>n⟩
theorem Tryz.laysNm215:Go.Proofs.Lays2.n15 Tryz.prog Tryz.laysNm215_ren:={
 mixed:=by kernel_rfl
 f15:=Tryz.func39.trans (congrArg some (by kernel_rfl))
 t3:=Tryz.underlying3
 a3:=Tryz.isAgg3
 z3:=Tryz.sizeOf3
 v3:=Tryz.zeroValue3
 t4:=Tryz.underlying4
 a4:=Tryz.isAgg4
 z4:=Tryz.sizeOf4
 v4:=Tryz.zeroValue4
 t22:=Tryz.underlying24
 a22:=Tryz.isAgg24
 z22:=Tryz.sizeOf24
 v22:=Tryz.zeroValue24
 i3:=by kernel_rfl}
open Go.RowKit Go.Lib in
theorem Tryz.slices_Clone_int(b off n c:Nat)(zs:List Int)(w:World)(hz:n<=zs.length)(hbig:n*8<=140737488355328)(hc: ∀j,j<zs.length->w.cell? ⟨b,off+j,none⟩=some (.int .i64 (zs.getD j 0))):
  Calls Tryz.prog 39 #[.slice (some ⟨b,off,none⟩) n c] w fun e w'=> ∃v',e=.returned v'/\w'.ownsRow w.heap.size 3 1 v' n ((zs.take n).map (Value.int .i64))/\v'≠.slice none 0 0/\Below w.heap.size w w':=Any.slices_Clone_int Tryz.laysNm215 b off n c zs w hz hbig hc
open Go.RowKit Go.Lib in
theorem Tryz.slices_Clone_int_nil(n c:Nat)(w:World):
  Calls Tryz.prog 39 #[.slice none n c] w fun e w'=>e=.returned (.slice none 0 0)/\w'=w:=Any.slices_Clone_int_nil Tryz.laysNm215 n c w
open Go.RowKit Go.Lib in
theorem Tryz.slices_Clone_int_zero(a:Addr)(c:Nat)(w:World):
  Calls Tryz.prog 39 #[.slice (some a) 0 c] w fun e w'=> ∃v',e=.returned v'/\w'.ownsRow w.heap.size 3 1 v' 0 []/\v'≠.slice none 0 0/\Below w.heap.size w w':=Any.slices_Clone_int_zero Tryz.laysNm215 a c w
def Tryz.laysNm220_ren:Go.Shelf.Ren:=⟨fun | 20=>41 | n=>n,fun | 22=>24 | 3=>3 | 4=>4 | 0=>0 | n=>n,fun | n=>n⟩
theorem Tryz.laysNm220:Go.Proofs.Lays2.n20 Tryz.prog Tryz.laysNm220_ren:={
 mixed:=by kernel_rfl
 f20:=Tryz.func41.trans (congrArg some (by kernel_rfl))
 t0:=Tryz.underlying0
 a0:=Tryz.isAgg0
 z0:=Tryz.sizeOf0
 v0:=Tryz.zeroValue0
 t3:=Tryz.underlying3
 a3:=Tryz.isAgg3
 z3:=Tryz.sizeOf3
 v3:=Tryz.zeroValue3
 t4:=Tryz.underlying4
 a4:=Tryz.isAgg4
 z4:=Tryz.sizeOf4
 v4:=Tryz.zeroValue4
 t22:=Tryz.underlying24
 a22:=Tryz.isAgg24
 z22:=Tryz.sizeOf24
 v22:=Tryz.zeroValue24
 i3:=by kernel_rfl}
open Go.RowKit Go.Lib Go.Sort in
theorem Tryz.slices_Compact_int(blk off cap:Nat)(zs:List Int)(w:World)(hH:Holds (Value.int .i64) w blk off zs.toArray)(hsz:zs.length<=9223372036854775807)(hcap:zs.length<=cap):
  Calls Tryz.prog 41 #[.slice (some ⟨blk,off,none⟩) zs.length cap] w fun e w'=>e=.returned (.slice (some ⟨blk,off,none⟩) (Lib.compact zs).length cap)/\∃q,w'=putRow (Value.int .i64) (Sort.ahead w q) blk off (Lib.compact zs++List.replicate (zs.length-(Lib.compact zs).length) 0).toArray:=Any.slices_Compact_int Tryz.laysNm220 blk off cap zs w hH hsz hcap
open Go.RowKit Go.Lib Go.Sort in
theorem Tryz.slices_Compact_int_empty(a:Option Addr)(cap:Nat)(w:World):
  Calls Tryz.prog 41 #[.slice a 0 cap] w fun e w'=>e=.returned (.slice a 0 cap)/\w'=w:=Any.slices_Compact_int_empty Tryz.laysNm220 a cap w
open Go.RowKit Go.Sort in
theorem Tryz.slices_Sort_int_none(p:Option Addr)(cap:Nat)(w:World):
  Calls Tryz.prog 40 #[.slice p 0 cap] w fun e w'=>e=.returned (.tuple #[])/\w'=w:=Any.slices_Sort_int_none Tryz.lays189 p cap w
def Tryz.keysT_ren:Go.Shelf.Ren:=⟨fun | 7=>37 | 10=>56 | n=>n,fun | 23=>79 | 26=>3 | 3=>81 | 28=>65 | 0=>0 | 27=>64 | 33=>77 | 4=>4 | n=>n,fun | n=>n⟩
theorem Tryz.keysT:Go.Proofs.SlLaysZI.n7 Tryz.prog Tryz.keysT_ren:={
 mixed:=by kernel_rfl
 f7:=⟨Tryz.f37.name,by decide,Tryz.func37.trans (congrArg some (by kernel_rfl))⟩
 f10:=⟨Tryz.f56.name,by decide,Tryz.func56.trans (congrArg some (by kernel_rfl))⟩
 t0:=Tryz.underlying0
 a0:=Tryz.isAgg0
 z0:=Tryz.sizeOf0
 v0:=Tryz.zeroValue0
 t4:=Tryz.underlying4
 a4:=Tryz.isAgg4
 z4:=Tryz.sizeOf4
 v4:=Tryz.zeroValue4
 t23:=Tryz.underlying79
 a23:=Tryz.isAgg79
 z23:=Tryz.sizeOf79
 v23:=Tryz.zeroValue79
 t26:=Tryz.underlying3
 a26:=Tryz.isAgg3
 z26:=Tryz.sizeOf3
 v26:=Tryz.zeroValue3
 t27:=Tryz.underlying64
 a27:=Tryz.isAgg64
 z27:=Tryz.sizeOf64
 v27:=Tryz.zeroValue64
 t28:=Tryz.underlying65
 a28:=Tryz.isAgg65
 z28:=Tryz.sizeOf65
 v28:=Tryz.zeroValue65
 t33:=Tryz.underlying77
 a33:=Tryz.isAgg77
 z33:=Tryz.sizeOf77
 v33:=Tryz.zeroValue77}
def Tryz.keysR_ren:Go.Shelf.Ren:=⟨fun | 7=>35 | 10=>55 | n=>n,fun | 23=>67 | 26=>3 | 3=>3 | 28=>65 | 0=>0 | 27=>64 | 33=>77 | 4=>4 | n=>n,fun | n=>n⟩
theorem Tryz.keysR:Go.Proofs.SlLaysZI.n7 Tryz.prog Tryz.keysR_ren:={
 mixed:=by kernel_rfl
 f7:=⟨Tryz.f35.name,by decide,Tryz.func35.trans (congrArg some (by kernel_rfl))⟩
 f10:=⟨Tryz.f55.name,by decide,Tryz.func55.trans (congrArg some (by kernel_rfl))⟩
 t0:=Tryz.underlying0
 a0:=Tryz.isAgg0
 z0:=Tryz.sizeOf0
 v0:=Tryz.zeroValue0
 t4:=Tryz.underlying4
 a4:=Tryz.isAgg4
 z4:=Tryz.sizeOf4
 v4:=Tryz.zeroValue4
 t23:=Tryz.underlying67
 a23:=Tryz.isAgg67
 z23:=Tryz.sizeOf67
 v23:=Tryz.zeroValue67
 t26:=Tryz.underlying3
 a26:=Tryz.isAgg3
 z26:=Tryz.sizeOf3
 v26:=Tryz.zeroValue3
 t27:=Tryz.underlying64
 a27:=Tryz.isAgg64
 z27:=Tryz.sizeOf64
 v27:=Tryz.zeroValue64
 t28:=Tryz.underlying65
 a28:=Tryz.isAgg65
 z28:=Tryz.sizeOf65
 v28:=Tryz.zeroValue65
 t33:=Tryz.underlying77
 a33:=Tryz.isAgg77
 z33:=Tryz.sizeOf77
 v33:=Tryz.zeroValue77}
def Tryz.sortedT_ren:Go.Shelf.Ren:=⟨fun | 6=>27 | 8=>50 | 9=>40 | 11=>76 | 13=>58 | 12=>57 | 23=>86 | 24=>87 | 14=>77 | 15=>78 | 16=>79 | 17=>80 | 18=>81 | 19=>82 | 20=>83 | 21=>84 | 22=>85 | 25=>103 | 26=>104 | 27=>105 | 28=>106 | 29=>107 | 30=>108 | 31=>121 | n=>n,fun | 26=>3 | 28=>65 | 24=>24 | 0=>0 | 3=>3 | 37=>100 | 48=>143 | 50=>49 | 4=>4 | 40=>136 | 39=>135 | 45=>133 | 5=>5 | 9=>9 | 51=>178 | 55=>155 | 57=>200 | 58=>201 | 33=>77 | n=>n,fun | n=>n⟩
theorem Tryz.sortedT:Go.Proofs.SlLaysZI.n6 Tryz.prog Tryz.sortedT_ren:={
 mixed:=by kernel_rfl
 f6:=⟨Tryz.f27.name,by decide,Tryz.func27.trans (congrArg some (by kernel_rfl))⟩
 f8:=⟨Tryz.f50.name,by decide,Tryz.func50.trans (congrArg some (by kernel_rfl))⟩
 f11:=⟨Tryz.f76.name,by decide,Tryz.func76.trans (congrArg some (by kernel_rfl))⟩
 t0:=Tryz.underlying0
 a0:=Tryz.isAgg0
 z0:=Tryz.sizeOf0
 v0:=Tryz.zeroValue0
 t24:=Tryz.underlying24
 a24:=Tryz.isAgg24
 z24:=Tryz.sizeOf24
 v24:=Tryz.zeroValue24
 t26:=Tryz.underlying3
 a26:=Tryz.isAgg3
 z26:=Tryz.sizeOf3
 v26:=Tryz.zeroValue3
 t28:=Tryz.underlying65
 a28:=Tryz.isAgg65
 z28:=Tryz.sizeOf65
 v28:=Tryz.zeroValue65
 i26:=by kernel_rfl}
def Tryz.sortT_ren:Go.Shelf.Ren:=⟨fun | 5=>40 | 8=>58 | 7=>57 | 19=>86 | 20=>87 | 10=>77 | 11=>78 | 12=>79 | 13=>80 | 14=>81 | 15=>82 | 16=>83 | 17=>84 | 18=>85 | 30=>103 | 31=>104 | 32=>105 | 33=>106 | 34=>107 | 35=>108 | 40=>121 | n=>n,fun | 23=>24 | 25=>3 | 3=>3 | 32=>100 | 22=>24 | 0=>0 | 44=>143 | 46=>49 | 4=>4 | 36=>136 | 35=>135 | 41=>133 | 5=>5 | 9=>9 | 53=>178 | 57=>155 | 63=>200 | 64=>201 | n=>n,fun | n=>n⟩
theorem Tryz.sortT:Go.Proofs.SlLaysM.n5 Tryz.prog Tryz.sortT_ren:={
 mixed:=by kernel_rfl
 f5:=⟨Tryz.f40.name,by decide,Tryz.func40.trans (congrArg some (by kernel_rfl))⟩
 f7:=⟨Tryz.f57.name,by decide,Tryz.func57.trans (congrArg some (by kernel_rfl))⟩
 f8:=Tryz.func58.trans (congrArg some (by kernel_rfl))
 f10:=⟨Tryz.f77.name,by decide,Tryz.func77.trans (congrArg some (by kernel_rfl))⟩
 f11:=⟨Tryz.f78.name,by decide,Tryz.func78.trans (congrArg some (by kernel_rfl))⟩
 f12:=⟨Tryz.f79.name,by decide,Tryz.func79.trans (congrArg some (by kernel_rfl))⟩
 f13:=⟨Tryz.f80.name,by decide,Tryz.func80.trans (congrArg some (by kernel_rfl))⟩
 f14:=⟨Tryz.f81.name,by decide,Tryz.func81.trans (congrArg some (by kernel_rfl))⟩
 f15:=⟨Tryz.f82.name,by decide,Tryz.func82.trans (congrArg some (by kernel_rfl))⟩
 f16:=⟨Tryz.f83.name,by decide,Tryz.func83.trans (congrArg some (by kernel_rfl))⟩
 f17:=⟨Tryz.f84.name,by decide,Tryz.func84.trans (congrArg some (by kernel_rfl))⟩
 f18:=⟨Tryz.f85.name,by decide,Tryz.func85.trans (congrArg some (by kernel_rfl))⟩
 f19:=Tryz.func86.trans (congrArg some (by kernel_rfl))
 f20:=Tryz.func87.trans (congrArg some (by kernel_rfl))
 f30:=⟨Tryz.f103.name,by decide,Tryz.func103.trans (congrArg some (by kernel_rfl))⟩
 f31:=Tryz.func104.trans (congrArg some (by kernel_rfl))
 f32:=Tryz.func105.trans (congrArg some (by kernel_rfl))
 f33:=⟨Tryz.f106.name,by decide,Tryz.func106.trans (congrArg some (by kernel_rfl))⟩
 f34:=⟨Tryz.f107.name,by decide,Tryz.func107.trans (congrArg some (by kernel_rfl))⟩
 f35:=⟨Tryz.f108.name,by decide,Tryz.func108.trans (congrArg some (by kernel_rfl))⟩
 f40:=⟨Tryz.f121.name,by decide,Tryz.func121.trans (congrArg some (by kernel_rfl))⟩
 t0:=Tryz.underlying0
 a0:=Tryz.isAgg0
 z0:=Tryz.sizeOf0
 v0:=Tryz.zeroValue0
 t3:=Tryz.underlying3
 a3:=Tryz.isAgg3
 z3:=Tryz.sizeOf3
 v3:=Tryz.zeroValue3
 t4:=Tryz.underlying4
 a4:=Tryz.isAgg4
 z4:=Tryz.sizeOf4
 v4:=Tryz.zeroValue4
 t5:=Tryz.underlying5
 a5:=Tryz.isAgg5
 z5:=Tryz.sizeOf5
 v5:=Tryz.zeroValue5
 t9:=Tryz.underlying9
 a9:=Tryz.isAgg9
 z9:=Tryz.sizeOf9
 v9:=Tryz.zeroValue9
 t22:=Tryz.underlying24
 a22:=Tryz.isAgg24
 z22:=Tryz.sizeOf24
 v22:=Tryz.zeroValue24
 t23:=Tryz.underlying24
 a23:=Tryz.isAgg24
 z23:=Tryz.sizeOf24
 v23:=Tryz.zeroValue24
 t25:=Tryz.underlying3
 a25:=Tryz.isAgg3
 z25:=Tryz.sizeOf3
 v25:=Tryz.zeroValue3
 t32:=Tryz.underlying100
 a32:=Tryz.isAgg100
 z32:=Tryz.sizeOf100
 v32:=Tryz.zeroValue100
 t35:=Tryz.underlying135
 a35:=Tryz.isAgg135
 z35:=Tryz.sizeOf135
 v35:=Tryz.zeroValue135
 t36:=Tryz.underlying136
 a36:=Tryz.isAgg136
 z36:=Tryz.sizeOf136
 v36:=Tryz.zeroValue136
 t41:=Tryz.underlying133
 a41:=Tryz.isAgg133
 z41:=Tryz.sizeOf133
 v41:=Tryz.zeroValue133
 t44:=Tryz.underlying143
 a44:=Tryz.isAgg143
 z44:=Tryz.sizeOf143
 v44:=Tryz.zeroValue143
 t46:=Tryz.underlying49
 a46:=Tryz.isAgg49
 z46:=Tryz.sizeOf49
 v46:=Tryz.zeroValue49
 t53:=Tryz.underlying178
 a53:=Tryz.isAgg178
 z53:=Tryz.sizeOf178
 v53:=Tryz.zeroValue178
 t57:=Tryz.underlying155
 a57:=Tryz.isAgg155
 z57:=Tryz.sizeOf155
 v57:=Tryz.zeroValue155
 t63:=Tryz.underlying200
 a63:=Tryz.isAgg200
 z63:=Tryz.sizeOf200
 v63:=Tryz.zeroValue200
 t64:=Tryz.underlying201
 a64:=Tryz.isAgg201
 z64:=Tryz.sizeOf201
 v64:=Tryz.zeroValue201}
end Go.Proofs
namespace Go.Proofs.YtbjegfpfmnleeaaGreatDoor
open Go.RowKit Go.Maps Go.Sort Go.Shelf
theorem Aw9(m:Nat):AnyZI.SortsIn Tryz.prog Tryz.sortedT_ren Fence.wide m:=
  ⟨fun blk off cap ss W hH hblk hsz => callsIn_wide.2 (AnyM.slices_Sort_int Tryz.sortT blk off cap ss W hH hblk hsz),
   fun p cap W=>callsIn_wide.2 (AnyM.slices_Sort_int_none Tryz.sortT p cap W)⟩
theorem Ve(mb:Option Nat)(W:World):Calls Tryz.prog 37 #[.map mb] W fun e w'=>e=.returned (.func (.func 56) #[] #[.pointer (some ⟨W.heap.size,0,none⟩)])/\w'=W.alloc (.cells #[.map mb] 79):=
 (callsIn_wide (n:=6)).1 (AnyZI.keys_in Tryz.keysT Fence.wide 6 trivial rfl mb W)
theorem Vf(mb:Option Nat)(W:World):Calls Tryz.prog 35 #[.map mb] W fun e w'=>e=.returned (.func (.func 55) #[] #[.pointer (some ⟨W.heap.size,0,none⟩)])/\w'=W.alloc (.cells #[.map mb] 67):=
 (callsIn_wide (n:=6)).1 (AnyZI.keys_in Tryz.keysR Fence.wide 6 trivial rfl mb W)
def Mi{H:Type}(D0:DataW H)(W:World)(e:Ending)(w':World):Prop:= ∃(v:Value) (ss:List Int),e=.returned v/\ss.Perm (intKeys D0)/\
 w'.ownsRow W.heap.size 3 1 v ss.length ((ss.mergeSort (fun x y=>decide (x<=y))).map encZ)/\(v=.slice none 0 0↔ss=[])/\Below W.heap.size W w'
theorem Mj{H:Type}(b nn g:Nat)(D0:DataW H)(R:Value->Option (DataW H×List MemPlace))(W:World)(hown:W.ownsMap Tryz.prog 3 R b nn D0)(hg:W.cell? ⟨g,0,none⟩=some (.map (some b)))(hgl:g<W.heap.size)
  (hmax:Maps.size D0<=maxLen) (hbytes:Maps.size D0*8<=140737488355328):
  Calls Tryz.prog 27 #[.func (.func 56) #[] #[.pointer (some ⟨g,0,none⟩)]] W (Mi D0 W):=by
 have hseq:=AnyZI.keys_gives (ρ:=Tryz.keysT_ren) {Tryz.keysT with} Fence.wide 2 trivial rfl Zo g b nn D0 W hgl hg hown
 have cS:=AnyZI.sorted_in Tryz.sortedT Fence.wide 5 trivial trivial trivial trivial rfl Zo (Aw9 _) (enters_of Tryz.func40 Zk rfl) 56 #[.pointer (some ⟨g,0,none⟩)] trivial (enters_of Tryz.func56 Zk rfl) _ _ hmax hbytes _ hseq
 change CallsIn _ _ Tryz.prog 27 _ _ _ at cS
 exact(callsIn_wide (n:=5)).1 cS
theorem Ml{H:Type}(b nn g:Nat)(D0:DataW H)(R:Value->Option (DataW H×List MemPlace))(W:World)(hown:W.ownsMap Tryz.prog 3 R b nn D0)(hg:W.cell? ⟨g,0,none⟩=some (.map (some b)))(hgl:g<W.heap.size)
  (hmax:Maps.size D0<=maxLen) (hbytes:Maps.size D0*8<=140737488355328):
  Calls Tryz.prog 27 #[.func (.func 55) #[] #[.pointer (some ⟨g,0,none⟩)]] W (Mi D0 W):=by
 have hseq:=AnyZI.keys_gives (ρ:=Tryz.keysR_ren) {Tryz.keysR with} Fence.wide 2 trivial rfl Zo g b nn D0 W hgl hg hown
 have cS:=AnyZI.sorted_in Tryz.sortedT Fence.wide 5 trivial trivial trivial trivial rfl Zo (Aw9 _) (enters_of Tryz.func40 Zk rfl) 55 #[.pointer (some ⟨g,0,none⟩)] trivial (enters_of Tryz.func55 Zk rfl) _ _ hmax hbytes _ hseq
 change CallsIn _ _ Tryz.prog 27 _ _ _ at cS
 exact(callsIn_wide (n:=5)).1 cS
end Go.Proofs.YtbjegfpfmnleeaaGreatDoor
namespace Go.Proofs.YtbjegfpfmnleeaaGreatDoor
open Go.RowKit
set_option maxRecDepth 100000
def svE(g:Nat)(v:Dt)(e:En):En:=if e.g=g then⟨e.g,e.key,v,e.hash,e.own⟩ else e
theorem Bd(g:Nat)(v:Dt)(e:En):(svE g v e).g=e.g:=by unfold svE;split<;>rfl
theorem Hb(g:Nat)(v:Dt)(e:En):(svE g v e).key=e.key:=by unfold svE;split<;>rfl
theorem Y4(g:Nat)(v:Dt)(e:En):(svE g v e).hash=e.hash:=by unfold svE;split<;>rfl
theorem Bp5(g:Nat)(v:Dt)(e:En):(svE g v e).own=e.own:=by unfold svE;split<;>rfl
theorem Cv8(g:Nat)(v:Dt)(R:List En):(R.map (svE g v)).map (·.g)=R.map (·.g):=by
 rw[List.map_map]
 exact List.map_congr_left fun e _=>Bd g v e
theorem Wq{f:En->En}(hf: ∀e,(f e).g=e.g)(o:Option En):pO (o.map f)=pO o:=by
 cases o with
 | none=>rfl
 | some e=>simp[pO,En.p,hf]
theorem Wr{f:En->En}(hf: ∀e,(f e).g=e.g){p:En->Bool}(hp: ∀e,p (f e)=p e)(R:List En):pO ((R.map f).find? p)=pO (R.find? p):=by
 rw[List.find?_map,show p∘f=p from funext hp]
 exact Wq hf _
theorem Ws{f:En->En}(hf: ∀e,(f e).g=e.g)(R:List En):pO (R.map f).head? =pO R.head? :=by rw[List.head?_map];exact Wq hf _
theorem Wt{f:En->En}(hf: ∀e,(f e).g=e.g)(R:List En):pO (R.map f).getLast? =pO R.getLast? :=by rw[List.getLast?_map];exact Wq hf _
theorem Links.sv{n:Nat}{R:List En}{N B A:Nat->Option Addr}(h:Links n R N B A)(g:Nat)(v:Dt):Links n (R.map (svE g v)) N B A:=by
 intro X e Z hX
 obtain⟨X1,Y1,rfl,rfl,hY⟩:=List.map_eq_append_iff.1 hX
 obtain⟨e1,Z1,rfl,rfl,rfl⟩:=List.map_eq_cons_iff.1 hY
 obtain⟨h1,h2,h3⟩:=h X1 e1 Z1 rfl
 rw[Bd,Y4,Wr (Bd g v) (fun e=>by unfold bkB;rw[Y4]),Ws (Bd g v),Wt (Bd g v)]
 exact⟨h1,h2,h3⟩
theorem HeadsOk.sv{n:Nat}{R:List En}{H:Nat->Option Addr}(h:HeadsOk n R H)(g:Nat)(v:Dt):HeadsOk n (R.map (svE g v)) H:=fun i hi=>by
 rw[Wr (Bd g v) (fun e=>by rw[Y4])]
 exact h i hi
theorem KeysOk.sv{R:List En}(h:KeysOk R)(g:Nat)(v:Dt):KeysOk (R.map (svE g v)):=
  ⟨fun e he => by
    obtain⟨x,hx,rfl⟩:=List.mem_map.1 he
    rw[Hb];exact h.right x hx,
   fun e he=>by
    obtain⟨x,hx,rfl⟩:=List.mem_map.1 he
    rw[Y4,Bp5,Hb];exact h.num x hx⟩
section
variable {w w':World} {m hb n:Nat} {fr tx:Option Addr} {many:Int} {H N B A:Nat->Option Addr} {R:List En} {D:Nat->Prop}
theorem Raw.setVal(h:Raw w m hb n fr tx many H N B A R D){x:En}(hx:x∈R){v:Dt}{mv:Dm}(hv:v.at w D mv)(hvo:v.ok):Raw (w.setCells x.g 11 (v.cs mv).toList) m hb n fr tx many H N B A (R.map (svE x.g v)) D where
 map:=let⟨cs,h1,h2⟩:=h.map;⟨cs,Blk.farL (Ne.symm (h.far x hx).1) _ _ _ h1,h2⟩
 heads:=let⟨t,hs,h1,h2⟩:=h.heads;⟨t,hs,Blk.farL (Ne.symm (h.far x hx).2) _ _ _ h1,h2⟩
 ent:=fun e he=>by
  obtain⟨y,hy,rfl⟩:=List.mem_map.1 he
  obtain⟨mk,m0,h1,h2,h3⟩:=h.ent y hy
  rw[Bd,Hb]
  unfold svE
  by_cases q:y.g=x.g
  ·obtain rfl:=Bo5 h.nd hy hx q
   rw[if_pos rfl]
   refine⟨mk,mv, ?_,K7 _ 11 h2 (h.out.2.2 y hx),K7 _ 11 hv (h.out.2.2 y hx)⟩
   have e:((v.cs mv).toList.foldl (fun(p:Array Value×Nat) v=>(p.1.setIfInBounds p.2 v,p.2+1)) (y.cs mk m0 (N y.g) (B y.g) (A y.g),11)).1=En.cs ⟨y.g,y.key,v,y.hash,y.own⟩ mk mv (N y.g) (B y.g) (A y.g):=by kernel_rfl
   have h4:=Blk.setL (v.cs mv).toList 11 _ _ h1
   rw[e] at h4
   exact h4
  ·rw[if_neg q]
   exact⟨mk,m0,Blk.farL q _ _ _ h1,K7 _ 11 h2 (h.out.2.2 x hx),K7 _ 11 h3 (h.out.2.2 x hx)⟩
 nd:=by rw[Cv8];exact h.nd
 far:=fun e he=>by
  obtain⟨y,hy,rfl⟩:=List.mem_map.1 he
  rw[Bd];exact h.far y hy
 out:=⟨h.out.1,h.out.2.1,fun e he=>by
  obtain⟨y,hy,rfl⟩:=List.mem_map.1 he
  rw[Bd];exact h.out.2.2 y hy⟩
 ok:=fun e he=>by
  obtain⟨y,hy,rfl⟩:=List.mem_map.1 he
  rw[Hb,Y4]
  obtain⟨h1,h2,h3⟩:=h.ok y hy
  refine⟨h1, ?_,h3⟩
  unfold svE
  split
  ·exact hvo
  ·exact h2
 dlt:=fun b hd=>by rw[B7];exact h.dlt b hd
end
theorem NOk.other{n:Nat}{R:List En}{N:Nat->Option Addr}(h:NOk n R N){g:Nat}(hg: ∀x∈R,x.g≠g)(p:Option Addr):NOk n R (upd N g p):=fun X e Z hX=>by
 rw[J8 (hg e (by rw[hX];simp))]
 exact h X e Z hX
theorem Links.nok{n:Nat}{R:List En}{N B A:Nat->Option Addr}(h:Links n R N B A):NOk n R N:=fun X e Z hX=>(h X e Z hX).1
def upH(R:List En)(A:Nat->Option Addr)(p:Addr):Nat->Option Addr:=match R with
 | []=>A
 | r::_=>upd A r.g (some p)
theorem Links.push{n:Nat}{R:List En}{N0 B0 A0 N' B A:Nat->Option Addr}{e:En}(h:Links n R N0 B0 A0)(hnd:((e::R).map (·.g)).Nodup)(hN:NOk n (e::R) N')(hB:B=upd B0 e.g (pO R.head?))(hA:A=upH R (upd A0 e.g none) e.p):Links n (e::R) N' B A:=by
 subst hB hA
 have hnd':=hnd
 rw[List.map_cons,List.nodup_cons] at hnd
 have hne: ∀x∈R,x.g≠e.g:=fun x hx q=>hnd.1 (List.mem_map.2 ⟨x,hx,q⟩)
 intro X x Z hX
 refine⟨hN X x Z hX, ?_⟩
 cases X with
 | nil=>
  injection hX with h1 h2
  subst h1 h2
  refine⟨H6 _ _ _, ?_⟩
  unfold upH
  cases R with
  | nil=>exact H6 _ _ _
  | cons r R=>
   show Go.Proofs.YtbjegfpfmnleeaaGreatDoor.upd _ r.g _ e.g=_
   rw[J8 (Ne.symm (hne r (by simp)))]
   exact H6 _ _ _
 | cons y X=>
  injection hX with h1 h2
  subst h1
  have hx:x∈R:=by rw[h2];simp
  obtain⟨_,q2,q3⟩:=h X x Z h2
  refine⟨(J8 (hne x hx)).trans q2, ?_⟩
  cases R with
  | nil=>cases hx
  | cons r R=>
   show Go.Proofs.YtbjegfpfmnleeaaGreatDoor.upd _ r.g _ x.g=_
   cases X with
   | nil=>
    injection h2 with h3 _
    subst h3
    exact H6 _ _ _
   | cons y X=>
    injection h2 with h3 h4
    subst h3
    have hxr:x.g≠r.g:=by
     rw[List.map_cons,List.nodup_cons] at hnd
     exact fun q=>hnd.2.1 (List.mem_map.2 ⟨x,by rw[h4];exact List.mem_append_right _ List.mem_cons_self,q⟩)
    rw[J8 hxr,J8 (hne x hx),q3]
    show _=pO (e::r::X).getLast?
    rw[List.getLast?_cons_cons]
theorem KeysOk.push{R:List En}(h:KeysOk R){e:En}(hr:rB e.key=true)(hk:kB e.key=true)(hh:e.hash=hV e.key)(ho:e.own=eqO e.key e.key):KeysOk (e::R):=
  ⟨fun x hx => by
    rcases List.mem_cons.1 hx with rfl | hx
    · exact⟨hr,hk⟩
    · exact h.right x hx,
   fun x hx=>by
    rcases List.mem_cons.1 hx with rfl | hx
    · exact⟨hh,ho⟩
    · exact h.num x hx⟩
def Grew(w:World)(D D':Nat->Prop):Prop:=(∀b,D b->D' b)/\∀b,D' b->D b\/w.heap.size<=b
theorem Grew.refl(w:World)(D:Nat->Prop):Grew w D D:=⟨fun _ h=>h,fun _ h=>.inl h⟩
def Bp6(w w':World)(m:Nat)(R':List En)(D O:Nat->Prop):Prop:= ∃D' O',MapAt w' m R' D' O'/\Moved O w w'/\Grew w D D'/\Grew w O O'
def Cu(R:List En)(k v:Dt)(R':List En):Prop:=match fE R k with
 | some x=>R'=R.map (svE x.g v)
 | none=> ∃g,R'=⟨g,k,v,hV k,eqO k k⟩::R
def Az7(m:Nat)(R:List En)(D O:Nat->Prop)(k v:Dt)(w:World)(e:Ending)(w':World):Prop:=
 if(rB k&&rB v)=false then Below w.heap.size w w'/\∃x,e=.returned x/\WrongAt w w' x
 else if kB k=false then Below w.heap.size w w'/\∃x,e=.returned x/\FaultAt w w' x Dn9 (W6 k.h k.k)
 else e=.returned .nilIface/\∃R',Cu R k v R'/\Bp6 w w' m R' D O
theorem OwnAt.moved{w w':World}{O:Nat->Prop}(h:OwnAt w)(hM:Moved O w w')(h0: ¬O 0)(hz:0<w.heap.size):OwnAt w':=fun j s hj=>by
 have:=h j s hj
 unfold World.cell? at this ⊢
 rw[hM.block 0 hz h0]
 exact this
theorem Blk.moved{w w':World}{O:Nat->Prop}{g:Nat}{t:TypeId}{cs:Array Value}(h:Blk w g t cs)(hM:Moved O w w')(h0: ¬O g):Blk w' g t cs:=(hM.block g h.lt h0).trans h
theorem Dt.at.moved{w w':World}{O S:Nat->Prop}{d:Dt}{m:Dm}(h:d.at w S m)(hM:Moved O w w')(h0: ∀b,S b->b<w.heap.size->¬O b):d.at w' S m:=h.keep (fun b hb hl=>hM.block b hl (h0 b hb hl)) (fun _ h _=>h)
end Go.Proofs.YtbjegfpfmnleeaaGreatDoor
