/-
   Written by an AI agent.
-/
import Derived.Test.YtbjegfpfmnleeaaGreatDoorProg
import Derived.Test.YtbjegfpfmnleeaaGreatDoorQw04
import Derived.Test.YtbjegfpfmnleeaaGreatDoorQw14
import Derived.Test.YtbjegfpfmnleeaaGreatDoorQw15
import Derived.Shelf.Small.Bits
import Derived.Shelf.Small.Wraps
import Derived.Shelf.Strconv.Itoa0
import Derived.Shelf.Strconv.Itoa1
import Derived.Shelf.LaysM
import Derived.Shelf.Strconv.Itoa2
import Derived.Shelf.Strconv.Itoa3
import Derived.Shelf.Sort.Plain
import Derived.Shelf.Slices.Turned
import Derived.Shelf.Slices.Reverse
import Derived.Shelf.Slices.Equal
import Derived.Ground.Names2Prog
import Derived.Shelf.Slices.Clone
import Derived.Shelf.Slices.CompactI
import Derived.Shelf.Slices.SearchI
import Derived.Shelf.Slices.Cells
import Derived.Shelf.Slices.In.SortNone
import Derived.Shelf.Slices.Empties2
import Derived.Ground.SlgnProg
import Derived.Shelf.SlicesE.Reverse
import Derived.Shelf.SlicesE.Clone
import Derived.Shelf.SlIterI.Nil
import Derived.Shelf.SortM.Plain
import Derived.Shelf.SortM.SortNone
import Derived.Ground.GgzProg
import Derived.Ground.SlgmProg
namespace Go.Proofs.YtbjegfpfmnleeaaGreatDoor
open Go.RowKit Go.Sort
set_option maxRecDepth 100000
variable {a:Act} {w:World} {df:List Deferred} {N:Act->World->Prop} {Q:Exit->Act->World->Prop} {l:List (Nat×Value)}
noncomputable def r_ho (n:Nat):Code:=((Tryz.f59.body.bind (findR n)).getD .skip)
noncomputable def hoBody:Code:=(.seq (r_ho 0) (.seq (.seq (r_ho 1) (.cond (.tmp 13) (.seq (r_ho 2) .ret) .skip)) (.seq (r_ho 3) .ret)))
theorem ho_body:Tryz.f59.body=some hoBody:=by kernel_rfl
theorem ho_r0{d:Dt}{m:Dm}(hs:Sl 28 a l df)(e1:Lk l 1 (.agg (d.cs m)))
  (hN: ∀a',Sl 28 a' ((3,pT w.heap.size)::(4,pT ((w.alloc (.cells (d.cs m) 53)).heap.size))::(5,.nilIface)::dropL [3,4,5] l) df->N a' ((w.alloc (.cells (d.cs m) 53)).alloc (.cells zA 53))):Rg N Q a w (r_ho 0):=
 reg (l0:=[(1,.agg (d.cs m))]) [3,4,5] [3,4,5] [.raw,.raw] hs ⟨e1,trivial⟩ hN (by kernel_rfl)
theorem ho_r1{g3:Nat}{d:Dt}{m:Dm}{C0:World->Prop}{k:Int}{b12:Bool}(hs:Sl 28 a l df)(e3:Lk l 3 (pT g3))(l0:Lp 53 (pT g3) (.agg (d.cs m)) w)(k1:Cl 65 #[.agg (d.cs m)] w (.bool true) C0)(l2: ∀(w1:World),C0 w1->Lp 3 (pT g3) (ii k) w1)(h3:decide (k≠8)=b12)
  (hN: ∀a' (w1:World),C0 w1->Sl 28 a' ((13,.bool b12)::dropL (List.range' 6 8) l) df->N a' w1):Rg N Q a w (r_ho 1):=
 reg (l0:=[(3,pT g3)]) [13] (List.range' 6 8) [.val (.agg (d.cs m)),.ret (.bool true) C0,.val (ii k),.bit b12] hs ⟨e3,trivial⟩ (aI l0.run (aI k1 (fun(w1:World) (hc0:C0 w1)=>(aI (l2 w1 hc0).run (aI h3 (fun a'=>hN a' w1 hc0)))))) (by kernel_rfl)
theorem ho_r3{C:World->Prop}{gh g3 g4:Nat}{d:Dt}{m:Dm}{ty:ByteArray}{C0:Dm->World->Prop}{C1:(Dt×Dm)->World->Prop}(hs:Sl 28 a l df)(e0:Lk l 0 (pT gh))(e3:Lk l 3 (pT g3))(e4:Lk l 4 (pT g4))(c0:C (w.drewN 1))(l1: ∀u,C u->Lp 53 (pT g3) (.agg (d.cs m)) u)(l2: ∀u,C u->Lp 9 (pF g3 1) (.string ty) u)(k3:Ca 68 #[.agg (d.cs m)] (w.drewN 1) fun e w'=> ∃q:Dm,e=.returned (.agg (d.cs q))/\C0 q w')(c4: ∀(q:Dm) (w1:World),C0 q w1->C w1)(c5: ∀(q:Dm) (w1:World),C0 q w1->C (w1.alloc (.cells #[ii d.h.kind,.string d.h.type,ii d.h.n,.int .u64 d.h.f,.string d.h.s,ii d.h.obj,ii d.h.frm,ii d.h.len,ii d.h.cap,.slice q.pa d.h.path.length q.pc,.slice q.ia d.k.len q.ic] 130)))(k6: ∀(q:Dm) (w1:World),C0 q w1->Ca 88 #[pT gh,.iface 126 (pT w1.heap.size),.agg #[ii 9,.string ty,ii 0,.int .u64 0,.string (⟨#[]⟩),ii 0,ii 0,ii 0,ii 0,.slice none 0 0,.slice none 0 0]] (w1.alloc (.cells #[ii d.h.kind,.string d.h.type,ii d.h.n,.int .u64 d.h.f,.string d.h.s,ii d.h.obj,ii d.h.frm,ii d.h.len,ii d.h.cap,.slice q.pa d.h.path.length q.pc,.slice q.ia d.k.len q.ic] 130)) fun e w'=> ∃y:(Dt×Dm),e=.returned (.tuple #[.agg (y.1.cs y.2),.nilIface])/\C1 y w')(c7: ∀(q:Dm) (w1:World),C0 q w1->∀(y:(Dt×Dm)) (w2:World),C1 y w2->C w2)(s8: ∀(q:Dm) (w1:World),C0 q w1->∀(y:(Dt×Dm)) (w2:World),C1 y w2->So 53 g4 0 (.agg (y.1.cs y.2)) w2 (y.1.cs y.2).toList)
  (hN: ∀a' (q:Dm) (w1:World) (y:(Dt×Dm)) (w2:World),C0 q w1->C1 y w2->Sl 28 a' ((5,.nilIface)::dropL (5::List.range' 16 12) l) df->N a' (w2.setCells g4 0 (y.1.cs y.2).toList)):Rg N Q a w (r_ho 3):=
 regP (l0:=[(0,pT gh),(3,pT g3),(4,pT g4)]) 12 [(true,0),(true,1),(true,6),(true,7),(true,8),(false,2),(false,3),(false,4),(false,5),(false,9),(true,10),(true,11)] C [5] (5::List.range' 16 12) [.val (.agg (d.cs m)),.val (.string ty),.val (.agg #[ii 9,.string ty,ii 0,.int .u64 0,.string (⟨#[]⟩),ii 0,ii 0,ii 0,ii 0,.slice none 0 0,.slice none 0 0]),.ex (Dm) (fun q=>.agg (d.cs q)) C0,.raw,.raw,.raw,.ex ((Dt×Dm)) (fun y=>.tuple #[.agg (y.1.cs y.2),.nilIface]) C1,.sto] hs ⟨e0,e3,e4,trivial⟩ (aI c0 (aI c0 (aI (fun u hu=>(l1 u hu).run) (aI c0 (aI c0 (aI (fun u hu=>(l2 u hu).run) (aI c0 (aI (fun(w':World)=>(by kernel_rfl:(Instr.build 53 #[(0,ii 9),(1,.string ty)]).run Tryz.prog w'=.ok (.agg #[ii 9,.string ty,ii 0,.int .u64 0,.string (⟨#[]⟩),ii 0,ii 0,ii 0,ii 0,.slice none 0 0,.slice none 0 0]) w')) (aI c0 (aI k3 (fun(q:Dm) (w1:World) (hc0:C0 q w1)=>(aI (c4 q w1 hc0) (aI (c4 q w1 hc0) (aI (c5 q w1 hc0) (aI (c5 q w1 hc0) (aI (k6 q w1 hc0) (fun(y:(Dt×Dm)) (w2:World) (hc1:C1 y w2)=>(aI (c7 q w1 hc0 y w2 hc1) (aI (c7 q w1 hc0 y w2 hc1) (aI (c7 q w1 hc0 y w2 hc1) (aI (s8 q w1 hc0 y w2 hc1) (fun a'=>hN a' q w1 y w2 hc0 hc1)))))))))))))))))))))) (by kernel_rfl)
noncomputable def r_hj (n:Nat):Code:=((Tryz.f60.body.bind (findR n)).getD .skip)
noncomputable def hjBody:Code:=(.seq (r_hj 0) (.seq (.seq (r_hj 1) (.cond (.tmp 13) (.seq (r_hj 2) .ret) .skip)) (.seq (r_hj 3) .ret)))
theorem hj_body:Tryz.f60.body=some hjBody:=by kernel_rfl
theorem hj_r0(hs:Sl 31 a l df)
  (hN: ∀a',Sl 31 a' ((4,pT w.heap.size)::(5,.nilIface)::dropL [4,5] l) df->N a' (w.alloc (.cells zA 53))):Rg N Q a w (r_hj 0):=
 reg (l0:=[]) [4,5] [4,5] [.raw] hs trivial hN (by kernel_rfl)
theorem hj_r1_f{sd:Option Addr}{sn sc:Nat}{C0:World->Prop}(hs:Sl 31 a l df)(e1:Lk l 1 (.slice sd sn sc))(h0:decide ((1048576:Int)<(sn:Int))=false)(k1:Cl 89 #[.slice sd sn sc] w (.bool true) C0)
  (hN: ∀a' (w1:World),C0 w1->Sl 31 a' ((13,.bool false)::dropL (List.range' 6 8) l) df->N a' w1):Rg N Q a w (r_hj 1):=
 reg (l0:=[(1,.slice sd sn sc)]) [13] (List.range' 6 8) [.bit false,.ret (.bool true) C0] hs ⟨e1,trivial⟩ (aI h0 (aI k1 (fun(w1:World) (hc0:C0 w1)=>(fun a'=>hN a' w1 hc0)))) (by kernel_rfl)
theorem hj_r3{gh sn sc g4:Nat}{sd:Option Addr}{C0:S3->World->Prop}{C1:(Dt×Dm)->World->Prop}(hs:Sl 31 a l df)(e0:Lk l 0 (pT gh))(e1:Lk l 1 (.slice sd sn sc))(e4:Lk l 4 (pT g4))(k0:Ca 90 #[.slice sd sn sc] w fun e w'=> ∃q:S3,e=.returned (.slice q.d q.n q.c)/\C0 q w')(k1: ∀(q:S3) (w1:World),C0 q w1->Ca 88 #[pT gh,.iface 146 (pT w1.heap.size),.agg #[ii 5,.string (⟨#[108,105,115,116]⟩),ii 0,.int .u64 0,.string (⟨#[]⟩),ii 0,ii 0,ii (sn:Int),ii (sn:Int),.slice none 0 0,.slice none 0 0]] (w1.alloc (.cells #[.slice q.d q.n q.c] 148)) fun e w'=> ∃y:(Dt×Dm),e=.returned (.tuple #[.agg (y.1.cs y.2),.nilIface])/\C1 y w')(s2: ∀(q:S3) (w1:World),C0 q w1->∀(y:(Dt×Dm)) (w2:World),C1 y w2->So 53 g4 0 (.agg (y.1.cs y.2)) w2 (y.1.cs y.2).toList)
  (hN: ∀a' (q:S3) (w1:World) (y:(Dt×Dm)) (w2:World),C0 q w1->C1 y w2->Sl 31 a' ((5,.nilIface)::dropL (5::List.range' 16 15) l) df->N a' (w2.setCells g4 0 (y.1.cs y.2).toList)):Rg N Q a w (r_hj 3):=
 reg (l0:=[(0,pT gh),(1,.slice sd sn sc),(4,pT g4)]) [5] (5::List.range' 16 15) [.ex (S3) (fun q=>.slice q.d q.n q.c) C0,.raw,.raw,.raw,.raw,.raw,.ex ((Dt×Dm)) (fun y=>.tuple #[.agg (y.1.cs y.2),.nilIface]) C1,.sto] hs ⟨e0,e1,e4,trivial⟩ (aI k0 (fun(q:S3) (w1:World) (hc0:C0 q w1)=>(aI (k1 q w1 hc0) (fun(y:(Dt×Dm)) (w2:World) (hc1:C1 y w2)=>(aI (s2 q w1 hc0 y w2 hc1) (fun a'=>hN a' q w1 y w2 hc0 hc1)))))) (by kernel_rfl)
noncomputable def r_hk (n:Nat):Code:=((Tryz.f61.body.bind (findR n)).getD .skip)
noncomputable def hkBody:Code:=(.seq (r_hk 0) (.seq (r_hk 1) (.seq (r_hk 2) .ret)))
theorem hk_body:Tryz.f61.body=some hkBody:=by kernel_rfl
theorem hk_r0(hs:Sl 16 a l df)
  (hN: ∀a',Sl 16 a' ((2,pT w.heap.size)::dropL [2] l) df->N a' (w.alloc (.cells zA 53))):Rg N Q a w (r_hk 0):=
 reg (l0:=[]) [2] [2] [.raw] hs trivial hN (by kernel_rfl)
theorem hk_r1{gh:Nat}{C0:Nat->World->Prop}{C1:(Dt×Dm)->World->Prop}(hs:Sl 16 a l df)(e0:Lk l 0 (pT gh))(k0:Ca 91 #[] w fun e w'=> ∃mb:Nat,e=.returned (pT mb)/\C0 mb w')(k1: ∀(mb:Nat) (w1:World),C0 mb w1->Ca 88 #[pT gh,.iface 115 (pT w1.heap.size),.agg #[ii 6,.string (⟨#[109,97,112]⟩),ii 0,.int .u64 0,.string (⟨#[]⟩),ii 0,ii 0,ii 0,ii 0,.slice none 0 0,.slice none 0 0]] (w1.alloc (.cells #[pT mb] 119)) fun e w'=> ∃y:(Dt×Dm),e=.returned (.tuple #[.agg (y.1.cs y.2),.nilIface])/\C1 y w')(s2: ∀(mb:Nat) (w1:World),C0 mb w1->∀(y:(Dt×Dm)) (w2:World),C1 y w2->So 53 w2.heap.size 0 (.agg (y.1.cs y.2)) (w2.alloc (.cells zA 53)) (y.1.cs y.2).toList)
  (hN: ∀a' (mb:Nat) (w1:World) (y:(Dt×Dm)) (w2:World),C0 mb w1->C1 y w2->Sl 16 a' ((3,pT w2.heap.size)::dropL (List.range' 3 12) l) df->N a' ((w2.alloc (.cells zA 53)).setCells w2.heap.size 0 (y.1.cs y.2).toList)):Rg N Q a w (r_hk 1):=
 reg (l0:=[(0,pT gh)]) [3] (List.range' 3 12) [.ex (Nat) (fun mb=>pT mb) C0,.raw,.raw,.raw,.raw,.ex ((Dt×Dm)) (fun y=>.tuple #[.agg (y.1.cs y.2),.nilIface]) C1,.raw,.sto] hs ⟨e0,trivial⟩ (aI k0 (fun(mb:Nat) (w1:World) (hc0:C0 mb w1)=>(aI (k1 mb w1 hc0) (fun(y:(Dt×Dm)) (w2:World) (hc1:C1 y w2)=>(aI (s2 mb w1 hc0 y w2 hc1) (fun a'=>hN a' mb w1 y w2 hc0 hc1)))))) (by kernel_rfl)
theorem hk_r2{g3 g2:Nat}{d:Dt}{m:Dm}(hs:Sl 16 a l df)(e3:Lk l 3 (pT g3))(e2:Lk l 2 (pT g2))(l0:Lp 53 (pT g3) (.agg (d.cs m)) w)(s1:So 53 g2 0 (.agg (d.cs m)) w (d.cs m).toList)
  (hN: ∀a',Sl 16 a' (dropL [15] l) df->N a' (w.setCells g2 0 (d.cs m).toList)):Rg N Q a w (r_hk 2):=
 reg (l0:=[(3,pT g3),(2,pT g2)]) [] [15] [.val (.agg (d.cs m)),.sto] hs ⟨e3,e2,trivial⟩ (aI l0.run (aI s1 hN)) (by kernel_rfl)
noncomputable def r_hb (n:Nat):Code:=((Tryz.f62.body.bind (findR n)).getD .skip)
noncomputable def hbBody:Code:=(.seq (r_hb 0) (.seq (.seq (r_hb 1) (.cond (.tmp 8) (.seq (r_hb 2) .ret) .skip)) (.seq (r_hb 3) .ret)))
theorem hb_body:Tryz.f62.body=some hbBody:=by kernel_rfl
theorem hb_r0{d:Dt}{m:Dm}(hs:Sl 19 a l df)(e1:Lk l 1 (.agg (d.cs m)))
  (hN: ∀a',Sl 19 a' ((3,pT w.heap.size)::(4,ii 0)::(5,.nilIface)::dropL [3,4,5] l) df->N a' (w.alloc (.cells (d.cs m) 53))):Rg N Q a w (r_hb 0):=
 reg (l0:=[(1,.agg (d.cs m))]) [3,4,5] [3,4,5] [.raw] hs ⟨e1,trivial⟩ hN (by kernel_rfl)
theorem hb_r1{g3:Nat}{d:Dt}{m:Dm}{C0:World->Prop}(hs:Sl 19 a l df)(e3:Lk l 3 (pT g3))(l0:Lp 53 (pT g3) (.agg (d.cs m)) w)(k1:Cl 65 #[.agg (d.cs m)] w (.bool true) C0)
  (hN: ∀a' (w1:World),C0 w1->Sl 19 a' ((8,.bool false)::dropL [6,7,8] l) df->N a' w1):Rg N Q a w (r_hb 1):=
 reg (l0:=[(3,pT g3)]) [8] [6,7,8] [.val (.agg (d.cs m)),.ret (.bool true) C0] hs ⟨e3,trivial⟩ (aI l0.run (aI k1 (fun(w1:World) (hc0:C0 w1)=>(fun a'=>hN a' w1 hc0)))) (by kernel_rfl)
theorem hb_r3{gh g3 n:Nat}{d:Dt}{m:Dm}{C0:Dm->World->Prop}{C1:World->Prop}(hs:Sl 19 a l df)(e0:Lk l 0 (pT gh))(e3:Lk l 3 (pT g3))(l0:Lp 53 (pT g3) (.agg (d.cs m)) w)(k1:Ca 68 #[.agg (d.cs m)] w fun e w'=> ∃q:Dm,e=.returned (.agg (d.cs q))/\C0 q w')(k2: ∀(q:Dm) (w1:World),C0 q w1->Cl 92 #[pT gh,.iface 121 (pT w1.heap.size)] (w1.alloc (.cells #[ii d.h.kind,.string d.h.type,ii d.h.n,.int .u64 d.h.f,.string d.h.s,ii d.h.obj,ii d.h.frm,ii d.h.len,ii d.h.cap,.slice q.pa d.h.path.length q.pc,.slice q.ia d.k.len q.ic] 124)) (.tuple #[ii (n:Int),.nilIface]) C1)
  (hN: ∀a' (q:Dm) (w1:World) (w2:World),C0 q w1->C1 w2->Sl 19 a' ((4,ii (n:Int))::(5,.nilIface)::dropL (4::5::List.range' 10 9) l) df->N a' w2):Rg N Q a w (r_hb 3):=
 reg (l0:=[(0,pT gh),(3,pT g3)]) [4,5] (4::5::List.range' 10 9) [.val (.agg (d.cs m)),.ex (Dm) (fun q=>.agg (d.cs q)) C0,.raw,.raw,.raw,.ret (.tuple #[ii (n:Int),.nilIface]) C1] hs ⟨e0,e3,trivial⟩ (aI l0.run (aI k1 (fun(q:Dm) (w1:World) (hc0:C0 q w1)=>(aI (k2 q w1 hc0) (fun(w2:World) (hc1:C1 w2)=>(fun a'=>hN a' q w1 w2 hc0 hc1)))))) (by kernel_rfl)
noncomputable def r_hu (n:Nat):Code:=((Tryz.f63.body.bind (findR n)).getD .skip)
noncomputable def huL0:Code:=(.seq (r_hu 2) (.seq (.cond (.tmp 17) .skip (.exit 0)) (.seq (.block 1 (.seq (r_hu 3) (.seq (r_hu 4) (.seq (r_hu 5) (.cond (.tmp 31) (.seq (r_hu 6) .ret) .skip))))) (r_hu 7))))
noncomputable def huBody:Code:=(.seq (r_hu 0) (.seq (.seq (r_hu 1) (.block 0 (.loop huL0))) (.seq (.seq (r_hu 8) (.cond (.tmp 41) (.seq (r_hu 9) .ret) .skip)) (.seq (r_hu 10) .ret))))
theorem hu_body:Tryz.f63.body=some huBody:=by kernel_rfl
theorem hu_r0(hs:Sl 57 a l df)
  (hN: ∀a',Sl 57 a' ((8,pT w.heap.size)::(9,.nilIface)::dropL [8,9] l) df->N a' (w.alloc (.cells zA 53))):Rg N Q a w (r_hu 0):=
 reg (l0:=[]) [8,9] [8,9] [.raw] hs trivial hN (by kernel_rfl)
theorem hu_r1{pd:Option Addr}{pn pc:Nat}(hs:Sl 57 a l df)(e2:Lk l 2 (.slice pd pn pc))
  (hN: ∀a',Sl 57 a' ((14,.slice pd pn pc)::(15,ii (pn:Int))::(16,ii 0)::dropL [14,15,16] l) df->N a' w):Rg N Q a w (r_hu 1):=
 reg (l0:=[(2,.slice pd pn pc)]) [14,15,16] [14,15,16] [] hs ⟨e2,trivial⟩ hN (by kernel_rfl)
theorem hu_r2{i pn:Nat}{b17:Bool}(hs:Sl 57 a l df)(e16:Lk l 16 (ii (i:Int)))(e15:Lk l 15 (ii (pn:Int)))(h0:decide ((i:Int)<(pn:Int))=b17)
  (hN: ∀a',Sl 57 a' ((17,.bool b17)::dropL [17] l) df->N a' w):Rg N Q a w (r_hu 2):=
 reg (l0:=[(16,ii (i:Int)),(15,ii (pn:Int))]) [17] [17] [.bit b17] hs ⟨e16,e15,trivial⟩ (aI h0 hN) (by kernel_rfl)
theorem hu_r3{pd:Option Addr}{pn pc i g18 o18:Nat}{o:Int}(hs:Sl 57 a l df)(e14:Lk l 14 (.slice pd pn pc))(e16:Lk l 16 (ii (i:Int)))(i0:Ix 24 (.slice pd pn pc) (ii (i:Int)) (pF g18 o18))(l1:Lp 3 (pF g18 o18) (ii o) w)
  (hN: ∀a',Sl 57 a' ((11,ii o)::dropL [11,18,19] l) df->N a' w):Rg N Q a w (r_hu 3):=
 reg (l0:=[(14,.slice pd pn pc),(16,ii (i:Int))]) [11] [11,18,19] [.val (pF g18 o18),.val (ii o)] hs ⟨e14,e16,trivial⟩ (aI (i0 w) (aI l1.run hN)) (by kernel_rfl)
theorem hu_r5{b13:Bool}(hs:Sl 57 a l df)(e13:Lk l 13 (.bool b13))
  (hN: ∀a',Sl 57 a' ((31,.bool (!b13))::dropL [30,31] l) df->N a' w):Rg N Q a w (r_hu 5):=
 reg (l0:=[(13,.bool b13)]) [31] [30,31] [] hs ⟨e13,trivial⟩ hN (by kernel_rfl)
theorem hu_r7{i:Nat}(hs:Sl 57 a l df)(e16:Lk l 16 (ii (i:Int)))(h0: -9223372036854775808<=(i:Int)+1/\(i:Int)+1<=9223372036854775807)
  (hN: ∀a',Sl 57 a' ((16,ii ((i:Int)+1))::dropL [16,34] l) df->N a' w):Rg N Q a w (r_hu 7):=
 reg (l0:=[(16,ii (i:Int))]) [16] [16,34] [.ari] hs ⟨e16,trivial⟩ (aI h0 hN) (by kernel_rfl)
theorem hu_r4{gh bm:Nat}{n11:Int}{v:Value}{p:Option Addr}{b:Bool}(hs:Sl 57 a l df)(e0:Lk l 0 (pT gh))(e11:Lk l 11 (ii n11))(l0:Lp 79 (pT gh) (.map (some bm)) w)(l1:Lkp Tryz.prog 79 (.map (some bm)) (ii n11) false (v) w)(i2: ∀w,(Instr.typeAssert (v) 81 121 true).run Tryz.prog w=.ok (.tuple #[.pointer p,.bool b]) w)
  (hN: ∀a',Sl 57 a' ((13,.bool b)::dropL (12::13::List.range' 20 10) l) df->N a' w):Rg N Q a w (r_hu 4):=
 reg (l0:=[(0,pT gh),(11,ii n11)]) [13] (12::13::List.range' 20 10) [.val (.map (some bm)),.val (v),.val (.tuple #[.pointer p,.bool b])] hs ⟨e0,e11,trivial⟩ (aI l0.run (aI l1.run (aI (i2 w) hN))) (by kernel_rfl)
theorem hu_r6{C0:Nat->World->Prop}{g8:Nat}(hs:Sl 57 a l df)(e8:Lk l 8 (pT g8))(k0:Ca 66 #[ii 1] w fun e w'=> ∃y:Nat,e=.returned (.iface 156 (pT y))/\C0 y w')(s1: ∀(y:Nat) (w1:World),C0 y w1->So 53 g8 0 (.agg zA) w1 [ii 0,.string (⟨#[]⟩),ii 0,.int .u64 0,.string (⟨#[]⟩),ii 0,ii 0,ii 0,ii 0,.slice none 0 0,.slice none 0 0])
  (hN: ∀a' (y:Nat) (w1:World),C0 y w1->Sl 57 a' ((9,.iface 156 (pT y))::dropL [9,32,33] l) df->N a' (w1.setCells g8 0 [ii 0,.string (⟨#[]⟩),ii 0,.int .u64 0,.string (⟨#[]⟩),ii 0,ii 0,ii 0,ii 0,.slice none 0 0,.slice none 0 0])):Rg N Q a w (r_hu 6):=
 reg (l0:=[(8,pT g8)]) [9] [9,32,33] [.raw,.ex (Nat) (fun y=>.iface 156 (pT y)) C0,.sto] hs ⟨e8,trivial⟩ (aI k0 (fun(y:Nat) (w1:World) (hc0:C0 y w1)=>(aI (s1 y w1 hc0) (fun a'=>hN a' y w1 hc0)))) (by kernel_rfl)
theorem hu_r8_f{c:Int}{sd:Option Addr}{sn sc:Nat}{C0:World->Prop}(hs:Sl 57 a l df)(e1:Lk l 1 (ii c))(e3:Lk l 3 (.slice sd sn sc))(h0:decide (c<0)=false)(k1:Cl 89 #[.slice sd sn sc] w (.bool true) C0)
  (hN: ∀a' (w1:World),C0 w1->Sl 57 a' ((41,.bool false)::dropL (List.range' 35 7) l) df->N a' w1):Rg N Q a w (r_hu 8):=
 reg (l0:=[(1,ii c),(3,.slice sd sn sc)]) [41] (List.range' 35 7) [.bit false,.ret (.bool true) C0] hs ⟨e1,e3,trivial⟩ (aI h0 (aI k1 (fun(w1:World) (hc0:C0 w1)=>(fun a'=>hN a' w1 hc0)))) (by kernel_rfl)
theorem hu_r10{gh pn pc sn sc g8:Nat}{c:Int}{pd sd:Option Addr}{C0:S3->World->Prop}{C1:World->S3->World->Prop}{C2:(Dt×Dm)->World->Prop}(hs:Sl 57 a l df)(e0:Lk l 0 (pT gh))(e1:Lk l 1 (ii c))(e2:Lk l 2 (.slice pd pn pc))(e3:Lk l 3 (.slice sd sn sc))(e8:Lk l 8 (pT g8))(k0:Ca 39 #[.slice pd pn pc] w fun e w'=> ∃p:S3,e=.returned (.slice p.d p.n p.c)/\C0 p w')(k1: ∀(p:S3) (w1:World),C0 p w1->Ca 90 #[.slice sd sn sc] w1 fun e w'=> ∃q:S3,e=.returned (.slice q.d q.n q.c)/\C1 w1 q w')(k2: ∀(p:S3) (w1:World),C0 p w1->∀(q:S3) (w2:World),C1 w1 q w2->Ca 88 #[pT gh,.iface 151 (pT w2.heap.size),.agg #[ii 7,.string (⟨#[102,117,110,99]⟩),ii 0,.int .u64 0,.string (⟨#[]⟩),ii 0,ii 0,ii 0,ii 0,.slice none 0 0,.slice none 0 0]] (w2.alloc (.cells #[ii c,.slice p.d p.n p.c,.slice q.d q.n q.c] 153)) fun e w'=> ∃y:(Dt×Dm),e=.returned (.tuple #[.agg (y.1.cs y.2),.nilIface])/\C2 y w')(s3: ∀(p:S3) (w1:World),C0 p w1->∀(q:S3) (w2:World),C1 w1 q w2->∀(y:(Dt×Dm)) (w3:World),C2 y w3->So 53 g8 0 (.agg (y.1.cs y.2)) w3 (y.1.cs y.2).toList)
  (hN: ∀a' (p:S3) (w1:World) (q:S3) (w2:World) (y:(Dt×Dm)) (w3:World),C0 p w1->C1 w1 q w2->C2 y w3->Sl 57 a' ((9,.nilIface)::dropL (9::List.range' 44 13) l) df->N a' (w3.setCells g8 0 (y.1.cs y.2).toList)):Rg N Q a w (r_hu 10):=
 reg (l0:=[(0,pT gh),(1,ii c),(2,.slice pd pn pc),(3,.slice sd sn sc),(8,pT g8)]) [9] (9::List.range' 44 13) [.ex (S3) (fun p=>.slice p.d p.n p.c) C0,.exw (S3) (fun q=>.slice q.d q.n q.c) C1,.raw,.raw,.raw,.raw,.ex ((Dt×Dm)) (fun y=>.tuple #[.agg (y.1.cs y.2),.nilIface]) C2,.sto] hs ⟨e0,e1,e2,e3,e8,trivial⟩ (aI k0 (fun(p:S3) (w1:World) (hc0:C0 p w1)=>(aI (k1 p w1 hc0) (fun(q:S3) (w2:World) (hc1:C1 w1 q w2)=>(aI (k2 p w1 hc0 q w2 hc1) (fun(y:(Dt×Dm)) (w3:World) (hc2:C2 y w3)=>(aI (s3 p w1 hc0 q w2 hc1 y w3 hc2) (fun a'=>hN a' p w1 q w2 y w3 hc0 hc1 hc2)))))))) (by kernel_rfl)
noncomputable def r_hf1 (n:Nat):Code:=((Tryz.f122.body.bind (findR n)).getD .skip)
noncomputable def hf1L0:Code:=(.seq (r_hf1 2) (.seq (.cond (.tmp 9) .skip (.exit 0)) (.seq (.block 1 (.seq (r_hf1 3) (.seq (r_hf1 4) (.cond (.tmp 16) (.seq (r_hf1 5) .ret) .skip)))) (r_hf1 6))))
noncomputable def hf1Body:Code:=(.seq (r_hf1 0) (.seq (.seq (r_hf1 1) (.block 0 (.loop hf1L0))) (.seq (r_hf1 7) .ret)))
theorem hf1_body:Tryz.f122.body=some hf1Body:=by kernel_rfl
theorem hf1_r0(hs:Sl 19 a l df)
  (hN: ∀a',Sl 19 a' ((4,ii 0)::dropL [4] l) df->N a' w):Rg N Q a w (r_hf1 0):=
 reg (l0:=[]) [4] [4] [] hs trivial hN (by kernel_rfl)
theorem hf1_r1{sd:Option Addr}{sn sc:Nat}(hs:Sl 19 a l df)(e0:Lk l 0 (.slice sd sn sc))
  (hN: ∀a',Sl 19 a' ((7,ii (sn:Int))::(8,ii 0)::dropL [6,7,8] l) df->N a' w):Rg N Q a w (r_hf1 1):=
 reg (l0:=[(0,.slice sd sn sc)]) [7,8] [6,7,8] [] hs ⟨e0,trivial⟩ hN (by kernel_rfl)
theorem hf1_r2{i sn:Nat}{b9:Bool}(hs:Sl 19 a l df)(e8:Lk l 8 (ii (i:Int)))(e7:Lk l 7 (ii (sn:Int)))(h0:decide ((i:Int)<(sn:Int))=b9)
  (hN: ∀a',Sl 19 a' ((9,.bool b9)::dropL [9] l) df->N a' w):Rg N Q a w (r_hf1 2):=
 reg (l0:=[(8,ii (i:Int)),(7,ii (sn:Int))]) [9] [9] [.bit b9] hs ⟨e8,e7,trivial⟩ (aI h0 hN) (by kernel_rfl)
theorem hf1_r3{i:Nat}(hs:Sl 19 a l df)(e8:Lk l 8 (ii (i:Int)))
  (hN: ∀a',Sl 19 a' ((5,ii (i:Int))::dropL [5,10] l) df->N a' w):Rg N Q a w (r_hf1 3):=
 reg (l0:=[(8,ii (i:Int))]) [5] [5,10] [] hs ⟨e8,trivial⟩ hN (by kernel_rfl)
theorem hf1_r4{sd:Option Addr}{sn sc i g14 o14:Nat}{d:Dt}{m:Dm}{b16:Bool}{C0:World->Prop}(hs:Sl 19 a l df)(e1:Lk l 1 (.func (.func 110) #[] #[]))(e0:Lk l 0 (.slice sd sn sc))(e5:Lk l 5 (ii (i:Int)))(i0:Ix 23 (.slice sd sn sc) (ii (i:Int)) (pF g14 o14))(l1:Lp 53 (pF g14 o14) (.agg (d.cs m)) w)(k2:Cl 110 #[.agg (d.cs m)] w (.bool b16) C0)
  (hN: ∀a' (w1:World),C0 w1->Sl 19 a' ((16,.bool b16)::dropL [11,12,13,14,15,16] l) df->N a' w1):Rg N Q a w (r_hf1 4):=
 reg (l0:=[(1,.func (.func 110) #[] #[]),(0,.slice sd sn sc),(5,ii (i:Int))]) [16] [11,12,13,14,15,16] [.val (pF g14 o14),.val (.agg (d.cs m)),.ret (.bool b16) C0] hs ⟨e1,e0,e5,trivial⟩ (aI (i0 w) (aI l1.run (aI k2 (fun(w1:World) (hc0:C0 w1)=>(fun a'=>hN a' w1 hc0))))) (by kernel_rfl)
theorem hf1_r6{i:Nat}(hs:Sl 19 a l df)(e8:Lk l 8 (ii (i:Int)))(h0: -9223372036854775808<=(i:Int)+1/\(i:Int)+1<=9223372036854775807)
  (hN: ∀a',Sl 19 a' ((8,ii ((i:Int)+1))::dropL [8,18] l) df->N a' w):Rg N Q a w (r_hf1 6):=
 reg (l0:=[(8,ii (i:Int))]) [8] [8,18] [.ari] hs ⟨e8,trivial⟩ (aI h0 hN) (by kernel_rfl)
theorem hf1_r7(hs:Sl 19 a l df)
  (hN: ∀a',Sl 19 a' ((4,ii (-1))::dropL [4] l) df->N a' w):Rg N Q a w (r_hf1 7):=
 reg (l0:=[]) [4] [4] [] hs trivial hN (by kernel_rfl)
noncomputable def r_hf2 (n:Nat):Code:=((Tryz.f109.body.bind (findR n)).getD .skip)
noncomputable def hf2Body:Code:=(.seq (r_hf2 0) (.seq (r_hf2 1) .ret))
theorem hf2_body:Tryz.f109.body=some hf2Body:=by kernel_rfl
theorem hf2_r0(hs:Sl 9 a l df)
  (hN: ∀a',Sl 9 a' ((4,.bool false)::dropL [4] l) df->N a' w):Rg N Q a w (r_hf2 0):=
 reg (l0:=[]) [4] [4] [] hs trivial hN (by kernel_rfl)
theorem hf2_r1{sd:Option Addr}{sn sc:Nat}{r7:Int}{C0:World->Prop}{b8:Bool}(hs:Sl 9 a l df)(e0:Lk l 0 (.slice sd sn sc))(e1:Lk l 1 (.func (.func 110) #[] #[]))(k0:Cl 122 #[.slice sd sn sc,.func (.func 110) #[] #[]] w (ii r7) C0)(h1:decide ((0:Int)<=r7)=b8)
  (hN: ∀a' (w1:World),C0 w1->Sl 9 a' ((4,.bool b8)::dropL [4,5,6,7,8] l) df->N a' w1):Rg N Q a w (r_hf2 1):=
 reg (l0:=[(0,.slice sd sn sc),(1,.func (.func 110) #[] #[])]) [4] [4,5,6,7,8] [.ret (ii r7) C0,.bit b8] hs ⟨e0,e1,trivial⟩ (aI k0 (fun(w1:World) (hc0:C0 w1)=>(aI h1 (fun a'=>hN a' w1 hc0)))) (by kernel_rfl)
end Go.Proofs.YtbjegfpfmnleeaaGreatDoor

namespace Go.Proofs
open Go.Shelf
def Tryz.lays189_ren:Go.Shelf.Ren:=⟨fun | 189=>40 | 125=>58 | 257=>57 | 128=>86 | 129=>87 | 294=>77 | 295=>78 | 296=>79 | 297=>80 | 298=>81 | 299=>82 | 216=>83 | 300=>84 | 301=>85 | 328=>103 | 329=>104 | 330=>105 | 331=>106 | 332=>107 | 215=>108 | 343=>121 | n=>n,fun | 28=>24 | 3=>3 | 46=>100 | 0=>0 | 51=>143 | 53=>49 | 4=>4 | 183=>136 | 182=>135 | 131=>133 | 5=>5 | 9=>9 | 218=>178 | 222=>155 | 228=>200 | 229=>201 | n=>n,fun | n=>n⟩
theorem Tryz.lays189:Go.Proofs.Lays.n189 Tryz.prog Tryz.lays189_ren:={
 mixed:=by kernel_rfl
 f125:=Tryz.func58.trans (congrArg some (by kernel_rfl))
 f128:=Tryz.func86.trans (congrArg some (by kernel_rfl))
 f129:=Tryz.func87.trans (congrArg some (by kernel_rfl))
 f189:=Tryz.func40.trans (congrArg some (by kernel_rfl))
 f215:=Tryz.func108.trans (congrArg some (by kernel_rfl))
 f216:=Tryz.func83.trans (congrArg some (by kernel_rfl))
 f257:=Tryz.func57.trans (congrArg some (by kernel_rfl))
 f294:=Tryz.func77.trans (congrArg some (by kernel_rfl))
 f295:=Tryz.func78.trans (congrArg some (by kernel_rfl))
 f296:=Tryz.func79.trans (congrArg some (by kernel_rfl))
 f297:=Tryz.func80.trans (congrArg some (by kernel_rfl))
 f298:=Tryz.func81.trans (congrArg some (by kernel_rfl))
 f299:=Tryz.func82.trans (congrArg some (by kernel_rfl))
 f300:=Tryz.func84.trans (congrArg some (by kernel_rfl))
 f301:=Tryz.func85.trans (congrArg some (by kernel_rfl))
 f328:=Tryz.func103.trans (congrArg some (by kernel_rfl))
 f329:=Tryz.func104.trans (congrArg some (by kernel_rfl))
 f330:=Tryz.func105.trans (congrArg some (by kernel_rfl))
 f331:=Tryz.func106.trans (congrArg some (by kernel_rfl))
 f332:=Tryz.func107.trans (congrArg some (by kernel_rfl))
 f343:=Tryz.func121.trans (congrArg some (by kernel_rfl))
 t0:=Tryz.underlying0
 a0:=Tryz.isAgg0
 z0:=Tryz.sizeOf0
 v0:=Tryz.zeroValue0
 t3:=Tryz.underlying3
 a3:=Tryz.isAgg3
 z3:=Tryz.sizeOf3
 v3:=Tryz.zeroValue3
 t4:=Tryz.underlying4
 a4:=Tryz.isAgg4
 z4:=Tryz.sizeOf4
 v4:=Tryz.zeroValue4
 t5:=Tryz.underlying5
 a5:=Tryz.isAgg5
 z5:=Tryz.sizeOf5
 v5:=Tryz.zeroValue5
 t9:=Tryz.underlying9
 a9:=Tryz.isAgg9
 z9:=Tryz.sizeOf9
 v9:=Tryz.zeroValue9
 t28:=Tryz.underlying24
 a28:=Tryz.isAgg24
 z28:=Tryz.sizeOf24
 v28:=Tryz.zeroValue24
 t46:=Tryz.underlying100
 a46:=Tryz.isAgg100
 z46:=Tryz.sizeOf100
 v46:=Tryz.zeroValue100
 t51:=Tryz.underlying143
 a51:=Tryz.isAgg143
 z51:=Tryz.sizeOf143
 v51:=Tryz.zeroValue143
 t53:=Tryz.underlying49
 a53:=Tryz.isAgg49
 z53:=Tryz.sizeOf49
 v53:=Tryz.zeroValue49
 t131:=Tryz.underlying133
 a131:=Tryz.isAgg133
 z131:=Tryz.sizeOf133
 v131:=Tryz.zeroValue133
 t182:=Tryz.underlying135
 a182:=Tryz.isAgg135
 z182:=Tryz.sizeOf135
 v182:=Tryz.zeroValue135
 t183:=Tryz.underlying136
 a183:=Tryz.isAgg136
 z183:=Tryz.sizeOf136
 v183:=Tryz.zeroValue136
 t218:=Tryz.underlying178
 a218:=Tryz.isAgg178
 z218:=Tryz.sizeOf178
 v218:=Tryz.zeroValue178
 t222:=Tryz.underlying155
 a222:=Tryz.isAgg155
 z222:=Tryz.sizeOf155
 v222:=Tryz.zeroValue155
 t228:=Tryz.underlying200
 a228:=Tryz.isAgg200
 z228:=Tryz.sizeOf200
 v228:=Tryz.zeroValue200
 t229:=Tryz.underlying201
 a229:=Tryz.isAgg201
 z229:=Tryz.sizeOf201
 v229:=Tryz.zeroValue201}
open Go.Sort Go.RowKit in
theorem Tryz.slices_Sort_int(blk off cap:Nat)(zs:List Int)(w:World)(hH:Holds (Value.int .i64) w blk off zs.toArray)(hblk:blk<w.heap.size)(hsz:zs.length<4611686018427387904):
  Calls Tryz.prog 40 #[.slice (some ⟨blk,off,none⟩) zs.length cap] w fun e w'=>
   e=.returned (.tuple #[])/\∃n os,w'=grow (putRow (Value.int .i64) (Sort.ahead w n) blk off (zs.mergeSort fun x y=>decide (x<=y)).toArray) os:=Any.slices_Sort_int Tryz.lays189 blk off cap zs w hH hblk hsz
def Tryz.lays112_ren:Go.Shelf.Ren:=⟨fun | 112=>30 | n=>n,fun | 28=>24 | 3=>3 | 4=>4 | 0=>0 | n=>n,fun | n=>n⟩
theorem Tryz.lays112:Go.Proofs.Lays.n112 Tryz.prog Tryz.lays112_ren:={
 mixed:=by kernel_rfl
 f112:=Tryz.func30.trans (congrArg some (by kernel_rfl))
 t0:=Tryz.underlying0
 a0:=Tryz.isAgg0
 z0:=Tryz.sizeOf0
 v0:=Tryz.zeroValue0
 t3:=Tryz.underlying3
 a3:=Tryz.isAgg3
 z3:=Tryz.sizeOf3
 v3:=Tryz.zeroValue3
 t4:=Tryz.underlying4
 a4:=Tryz.isAgg4
 z4:=Tryz.sizeOf4
 v4:=Tryz.zeroValue4
 t28:=Tryz.underlying24
 a28:=Tryz.isAgg24
 z28:=Tryz.sizeOf24
 v28:=Tryz.zeroValue24}
open Go.RowKit Go.Lib Go.Sort in
theorem Tryz.slices_Reverse_int(blk off cap:Nat)(zs:List Int)(w:World)(hH:Holds (Value.int .i64) w blk off zs.toArray)(hsz:zs.length<=9223372036854775807):
  Calls Tryz.prog 30 #[.slice (some ⟨blk,off,none⟩) zs.length cap] w fun e w'=>e=.returned (.tuple #[])/\∃n,w'=putRow (Value.int .i64) (Sort.ahead w n) blk off zs.reverse.toArray:=Any.slices_Reverse_int Tryz.lays112 blk off cap zs w hH hsz
open Go.RowKit Go.Lib Go.Sort in
theorem Tryz.slices_Reverse_int_empty(a:Option Addr)(cap:Nat)(w:World):
  Calls Tryz.prog 30 #[.slice a 0 cap] w fun e w'=>e=.returned (.tuple #[])/\w'=w:=Any.slices_Reverse_int_empty Tryz.lays112 a cap w
def Tryz.laysNm215_ren:Go.Shelf.Ren:=⟨fun | 15=>39 | n=>n,fun | 22=>24 | 3=>3 | 4=>4 | n=>n,fun | n=>n⟩
theorem Tryz.laysNm215:Go.Proofs.Lays2.n15 Tryz.prog Tryz.laysNm215_ren:={
 mixed:=by kernel_rfl
 f15:=Tryz.func39.trans (congrArg some (by kernel_rfl))
 t3:=Tryz.underlying3
 a3:=Tryz.isAgg3
 z3:=Tryz.sizeOf3
 v3:=Tryz.zeroValue3
 t4:=Tryz.underlying4
 a4:=Tryz.isAgg4
 z4:=Tryz.sizeOf4
 v4:=Tryz.zeroValue4
 t22:=Tryz.underlying24
 a22:=Tryz.isAgg24
 z22:=Tryz.sizeOf24
 v22:=Tryz.zeroValue24
 i3:=by kernel_rfl}
open Go.RowKit Go.Lib in
theorem Tryz.slices_Clone_int(b off n c:Nat)(zs:List Int)(w:World)(hz:n<=zs.length)(hbig:n*8<=140737488355328)(hc: ∀j,j<zs.length->w.cell? ⟨b,off+j,none⟩=some (.int .i64 (zs.getD j 0))):
  Calls Tryz.prog 39 #[.slice (some ⟨b,off,none⟩) n c] w fun e w'=> ∃v',e=.returned v'/\w'.ownsRow w.heap.size 3 1 v' n ((zs.take n).map (Value.int .i64))/\v'≠.slice none 0 0/\Below w.heap.size w w':=Any.slices_Clone_int Tryz.laysNm215 b off n c zs w hz hbig hc
open Go.RowKit Go.Lib in
theorem Tryz.slices_Clone_int_nil(n c:Nat)(w:World):
  Calls Tryz.prog 39 #[.slice none n c] w fun e w'=>e=.returned (.slice none 0 0)/\w'=w:=Any.slices_Clone_int_nil Tryz.laysNm215 n c w
open Go.RowKit Go.Lib in
theorem Tryz.slices_Clone_int_zero(a:Addr)(c:Nat)(w:World):
  Calls Tryz.prog 39 #[.slice (some a) 0 c] w fun e w'=> ∃v',e=.returned v'/\w'.ownsRow w.heap.size 3 1 v' 0 []/\v'≠.slice none 0 0/\Below w.heap.size w w':=Any.slices_Clone_int_zero Tryz.laysNm215 a c w
def Tryz.laysNm220_ren:Go.Shelf.Ren:=⟨fun | 20=>41 | n=>n,fun | 22=>24 | 3=>3 | 4=>4 | 0=>0 | n=>n,fun | n=>n⟩
theorem Tryz.laysNm220:Go.Proofs.Lays2.n20 Tryz.prog Tryz.laysNm220_ren:={
 mixed:=by kernel_rfl
 f20:=Tryz.func41.trans (congrArg some (by kernel_rfl))
 t0:=Tryz.underlying0
 a0:=Tryz.isAgg0
 z0:=Tryz.sizeOf0
 v0:=Tryz.zeroValue0
 t3:=Tryz.underlying3
 a3:=Tryz.isAgg3
 z3:=Tryz.sizeOf3
 v3:=Tryz.zeroValue3
 t4:=Tryz.underlying4
 a4:=Tryz.isAgg4
 z4:=Tryz.sizeOf4
 v4:=Tryz.zeroValue4
 t22:=Tryz.underlying24
 a22:=Tryz.isAgg24
 z22:=Tryz.sizeOf24
 v22:=Tryz.zeroValue24
 i3:=by kernel_rfl}
open Go.RowKit Go.Lib Go.Sort in
theorem Tryz.slices_Compact_int(blk off cap:Nat)(zs:List Int)(w:World)(hH:Holds (Value.int .i64) w blk off zs.toArray)(hsz:zs.length<=9223372036854775807)(hcap:zs.length<=cap):
  Calls Tryz.prog 41 #[.slice (some ⟨blk,off,none⟩) zs.length cap] w fun e w'=>e=.returned (.slice (some ⟨blk,off,none⟩) (Lib.compact zs).length cap)/\∃q,w'=putRow (Value.int .i64) (Sort.ahead w q) blk off (Lib.compact zs++List.replicate (zs.length-(Lib.compact zs).length) 0).toArray:=Any.slices_Compact_int Tryz.laysNm220 blk off cap zs w hH hsz hcap
open Go.RowKit Go.Lib Go.Sort in
theorem Tryz.slices_Compact_int_empty(a:Option Addr)(cap:Nat)(w:World):
  Calls Tryz.prog 41 #[.slice a 0 cap] w fun e w'=>e=.returned (.slice a 0 cap)/\w'=w:=Any.slices_Compact_int_empty Tryz.laysNm220 a cap w
open Go.RowKit Go.Sort in
theorem Tryz.slices_Sort_int_none(p:Option Addr)(cap:Nat)(w:World):
  Calls Tryz.prog 40 #[.slice p 0 cap] w fun e w'=>e=.returned (.tuple #[])/\w'=w:=Any.slices_Sort_int_none Tryz.lays189 p cap w
def Tryz.keysT_ren:Go.Shelf.Ren:=⟨fun | 7=>37 | 10=>56 | n=>n,fun | 23=>79 | 26=>3 | 3=>81 | 28=>65 | 0=>0 | 27=>64 | 33=>77 | 4=>4 | n=>n,fun | n=>n⟩
theorem Tryz.keysT:Go.Proofs.SlLaysZI.n7 Tryz.prog Tryz.keysT_ren:={
 mixed:=by kernel_rfl
 f7:=⟨Tryz.f37.name,by decide,Tryz.func37.trans (congrArg some (by kernel_rfl))⟩
 f10:=⟨Tryz.f56.name,by decide,Tryz.func56.trans (congrArg some (by kernel_rfl))⟩
 t0:=Tryz.underlying0
 a0:=Tryz.isAgg0
 z0:=Tryz.sizeOf0
 v0:=Tryz.zeroValue0
 t4:=Tryz.underlying4
 a4:=Tryz.isAgg4
 z4:=Tryz.sizeOf4
 v4:=Tryz.zeroValue4
 t23:=Tryz.underlying79
 a23:=Tryz.isAgg79
 z23:=Tryz.sizeOf79
 v23:=Tryz.zeroValue79
 t26:=Tryz.underlying3
 a26:=Tryz.isAgg3
 z26:=Tryz.sizeOf3
 v26:=Tryz.zeroValue3
 t27:=Tryz.underlying64
 a27:=Tryz.isAgg64
 z27:=Tryz.sizeOf64
 v27:=Tryz.zeroValue64
 t28:=Tryz.underlying65
 a28:=Tryz.isAgg65
 z28:=Tryz.sizeOf65
 v28:=Tryz.zeroValue65
 t33:=Tryz.underlying77
 a33:=Tryz.isAgg77
 z33:=Tryz.sizeOf77
 v33:=Tryz.zeroValue77}
def Tryz.keysR_ren:Go.Shelf.Ren:=⟨fun | 7=>35 | 10=>55 | n=>n,fun | 23=>67 | 26=>3 | 3=>3 | 28=>65 | 0=>0 | 27=>64 | 33=>77 | 4=>4 | n=>n,fun | n=>n⟩
theorem Tryz.keysR:Go.Proofs.SlLaysZI.n7 Tryz.prog Tryz.keysR_ren:={
 mixed:=by kernel_rfl
 f7:=⟨Tryz.f35.name,by decide,Tryz.func35.trans (congrArg some (by kernel_rfl))⟩
 f10:=⟨Tryz.f55.name,by decide,Tryz.func55.trans (congrArg some (by kernel_rfl))⟩
 t0:=Tryz.underlying0
 a0:=Tryz.isAgg0
 z0:=Tryz.sizeOf0
 v0:=Tryz.zeroValue0
 t4:=Tryz.underlying4
 a4:=Tryz.isAgg4
 z4:=Tryz.sizeOf4
 v4:=Tryz.zeroValue4
 t23:=Tryz.underlying67
 a23:=Tryz.isAgg67
 z23:=Tryz.sizeOf67
 v23:=Tryz.zeroValue67
 t26:=Tryz.underlying3
 a26:=Tryz.isAgg3
 z26:=Tryz.sizeOf3
 v26:=Tryz.zeroValue3
 t27:=Tryz.underlying64
 a27:=Tryz.isAgg64
 z27:=Tryz.sizeOf64
 v27:=Tryz.zeroValue64
 t28:=Tryz.underlying65
 a28:=Tryz.isAgg65
 z28:=Tryz.sizeOf65
 v28:=Tryz.zeroValue65
 t33:=Tryz.underlying77
 a33:=Tryz.isAgg77
 z33:=Tryz.sizeOf77
 v33:=Tryz.zeroValue77}
def Tryz.sortedT_ren:Go.Shelf.Ren:=⟨fun | 6=>27 | 8=>50 | 9=>40 | 11=>76 | 13=>58 | 12=>57 | 23=>86 | 24=>87 | 14=>77 | 15=>78 | 16=>79 | 17=>80 | 18=>81 | 19=>82 | 20=>83 | 21=>84 | 22=>85 | 25=>103 | 26=>104 | 27=>105 | 28=>106 | 29=>107 | 30=>108 | 31=>121 | n=>n,fun | 26=>3 | 28=>65 | 24=>24 | 0=>0 | 3=>3 | 37=>100 | 48=>143 | 50=>49 | 4=>4 | 40=>136 | 39=>135 | 45=>133 | 5=>5 | 9=>9 | 51=>178 | 55=>155 | 57=>200 | 58=>201 | 33=>77 | n=>n,fun | n=>n⟩
theorem Tryz.sortedT:Go.Proofs.SlLaysZI.n6 Tryz.prog Tryz.sortedT_ren:={
 mixed:=by kernel_rfl
 f6:=⟨Tryz.f27.name,by decide,Tryz.func27.trans (congrArg some (by kernel_rfl))⟩
 f8:=⟨Tryz.f50.name,by decide,Tryz.func50.trans (congrArg some (by kernel_rfl))⟩
 f11:=⟨Tryz.f76.name,by decide,Tryz.func76.trans (congrArg some (by kernel_rfl))⟩
 t0:=Tryz.underlying0
 a0:=Tryz.isAgg0
 z0:=Tryz.sizeOf0
 v0:=Tryz.zeroValue0
 t24:=Tryz.underlying24
 a24:=Tryz.isAgg24
 z24:=Tryz.sizeOf24
 v24:=Tryz.zeroValue24
 t26:=Tryz.underlying3
 a26:=Tryz.isAgg3
 z26:=Tryz.sizeOf3
 v26:=Tryz.zeroValue3
 t28:=Tryz.underlying65
 a28:=Tryz.isAgg65
 z28:=Tryz.sizeOf65
 v28:=Tryz.zeroValue65
 i26:=by kernel_rfl}
def Tryz.sortT_ren:Go.Shelf.Ren:=⟨fun | 5=>40 | 8=>58 | 7=>57 | 19=>86 | 20=>87 | 10=>77 | 11=>78 | 12=>79 | 13=>80 | 14=>81 | 15=>82 | 16=>83 | 17=>84 | 18=>85 | 30=>103 | 31=>104 | 32=>105 | 33=>106 | 34=>107 | 35=>108 | 40=>121 | n=>n,fun | 23=>24 | 25=>3 | 3=>3 | 32=>100 | 22=>24 | 0=>0 | 44=>143 | 46=>49 | 4=>4 | 36=>136 | 35=>135 | 41=>133 | 5=>5 | 9=>9 | 53=>178 | 57=>155 | 63=>200 | 64=>201 | n=>n,fun | n=>n⟩
theorem Tryz.sortT:Go.Proofs.SlLaysM.n5 Tryz.prog Tryz.sortT_ren:={
 mixed:=by kernel_rfl
 f5:=⟨Tryz.f40.name,by decide,Tryz.func40.trans (congrArg some (by kernel_rfl))⟩
 f7:=⟨Tryz.f57.name,by decide,Tryz.func57.trans (congrArg some (by kernel_rfl))⟩
 f8:=Tryz.func58.trans (congrArg some (by kernel_rfl))
 f10:=⟨Tryz.f77.name,by decide,Tryz.func77.trans (congrArg some (by kernel_rfl))⟩
 f11:=⟨Tryz.f78.name,by decide,Tryz.func78.trans (congrArg some (by kernel_rfl))⟩
 f12:=⟨Tryz.f79.name,by decide,Tryz.func79.trans (congrArg some (by kernel_rfl))⟩
 f13:=⟨Tryz.f80.name,by decide,Tryz.func80.trans (congrArg some (by kernel_rfl))⟩
 f14:=⟨Tryz.f81.name,by decide,Tryz.func81.trans (congrArg some (by kernel_rfl))⟩
 f15:=⟨Tryz.f82.name,by decide,Tryz.func82.trans (congrArg some (by kernel_rfl))⟩
 f16:=⟨Tryz.f83.name,by decide,Tryz.func83.trans (congrArg some (by kernel_rfl))⟩
 f17:=⟨Tryz.f84.name,by decide,Tryz.func84.trans (congrArg some (by kernel_rfl))⟩
 f18:=⟨Tryz.f85.name,by decide,Tryz.func85.trans (congrArg some (by kernel_rfl))⟩
 f19:=Tryz.func86.trans (congrArg some (by kernel_rfl))
 f20:=Tryz.func87.trans (congrArg some (by kernel_rfl))
 f30:=⟨Tryz.f103.name,by decide,Tryz.func103.trans (congrArg some (by kernel_rfl))⟩
 f31:=Tryz.func104.trans (congrArg some (by kernel_rfl))
 f32:=Tryz.func105.trans (congrArg some (by kernel_rfl))
 f33:=⟨Tryz.f106.name,by decide,Tryz.func106.trans (congrArg some (by kernel_rfl))⟩
 f34:=⟨Tryz.f107.name,by decide,Tryz.func107.trans (congrArg some (by kernel_rfl))⟩
 f35:=⟨Tryz.f108.name,by decide,Tryz.func108.trans (congrArg some (by kernel_rfl))⟩
 f40:=⟨Tryz.f121.name,by decide,Tryz.func121.trans (congrArg some (by kernel_rfl))⟩
 t0:=Tryz.underlying0
 a0:=Tryz.isAgg0
 z0:=Tryz.sizeOf0
 v0:=Tryz.zeroValue0
 t3:=Tryz.underlying3
 a3:=Tryz.isAgg3
 z3:=Tryz.sizeOf3
 v3:=Tryz.zeroValue3
 t4:=Tryz.underlying4
 a4:=Tryz.isAgg4
 z4:=Tryz.sizeOf4
 v4:=Tryz.zeroValue4
 t5:=Tryz.underlying5
 a5:=Tryz.isAgg5
 z5:=Tryz.sizeOf5
 v5:=Tryz.zeroValue5
 t9:=Tryz.underlying9
 a9:=Tryz.isAgg9
 z9:=Tryz.sizeOf9
 v9:=Tryz.zeroValue9
 t22:=Tryz.underlying24
 a22:=Tryz.isAgg24
 z22:=Tryz.sizeOf24
 v22:=Tryz.zeroValue24
 t23:=Tryz.underlying24
 a23:=Tryz.isAgg24
 z23:=Tryz.sizeOf24
 v23:=Tryz.zeroValue24
 t25:=Tryz.underlying3
 a25:=Tryz.isAgg3
 z25:=Tryz.sizeOf3
 v25:=Tryz.zeroValue3
 t32:=Tryz.underlying100
 a32:=Tryz.isAgg100
 z32:=Tryz.sizeOf100
 v32:=Tryz.zeroValue100
 t35:=Tryz.underlying135
 a35:=Tryz.isAgg135
 z35:=Tryz.sizeOf135
 v35:=Tryz.zeroValue135
 t36:=Tryz.underlying136
 a36:=Tryz.isAgg136
 z36:=Tryz.sizeOf136
 v36:=Tryz.zeroValue136
 t41:=Tryz.underlying133
 a41:=Tryz.isAgg133
 z41:=Tryz.sizeOf133
 v41:=Tryz.zeroValue133
 t44:=Tryz.underlying143
 a44:=Tryz.isAgg143
 z44:=Tryz.sizeOf143
 v44:=Tryz.zeroValue143
 t46:=Tryz.underlying49
 a46:=Tryz.isAgg49
 z46:=Tryz.sizeOf49
 v46:=Tryz.zeroValue49
 t53:=Tryz.underlying178
 a53:=Tryz.isAgg178
 z53:=Tryz.sizeOf178
 v53:=Tryz.zeroValue178
 t57:=Tryz.underlying155
 a57:=Tryz.isAgg155
 z57:=Tryz.sizeOf155
 v57:=Tryz.zeroValue155
 t63:=Tryz.underlying200
 a63:=Tryz.isAgg200
 z63:=Tryz.sizeOf200
 v63:=Tryz.zeroValue200
 t64:=Tryz.underlying201
 a64:=Tryz.isAgg201
 z64:=Tryz.sizeOf201
 v64:=Tryz.zeroValue201}
end Go.Proofs

namespace Go.Proofs.YtbjegfpfmnleeaaGreatDoor
open Go.RowKit Go.Maps Go.Sort Go.Shelf
theorem sortsT(m:Nat):AnyZI.SortsIn Tryz.prog Tryz.sortedT_ren Fence.wide m:=
  ⟨fun blk off cap ss W hH hblk hsz => callsIn_wide.2 (AnyM.slices_Sort_int Tryz.sortT blk off cap ss W hH hblk hsz),
   fun p cap W=>callsIn_wide.2 (AnyM.slices_Sort_int_none Tryz.sortT p cap W)⟩
theorem keysT_any(mb:Option Nat)(W:World):Calls Tryz.prog 37 #[.map mb] W fun e w'=>e=.returned (.func (.func 56) #[] #[.pointer (some ⟨W.heap.size,0,none⟩)])/\w'=W.alloc (.cells #[.map mb] 79):=
 (callsIn_wide (n:=6)).1 (AnyZI.keys_in Tryz.keysT Fence.wide 6 trivial rfl mb W)
theorem keysR_any(mb:Option Nat)(W:World):Calls Tryz.prog 35 #[.map mb] W fun e w'=>e=.returned (.func (.func 55) #[] #[.pointer (some ⟨W.heap.size,0,none⟩)])/\w'=W.alloc (.cells #[.map mb] 67):=
 (callsIn_wide (n:=6)).1 (AnyZI.keys_in Tryz.keysR Fence.wide 6 trivial rfl mb W)
def SortedK{H:Type}(D0:DataW H)(W:World)(e:Ending)(w':World):Prop:= ∃(v:Value) (ss:List Int),e=.returned v/\ss.Perm (intKeys D0)/\
 w'.ownsRow W.heap.size 3 1 v ss.length ((ss.mergeSort (fun x y=>decide (x<=y))).map encZ)/\(v=.slice none 0 0↔ss=[])/\Below W.heap.size W w'
theorem sortedT_any{H:Type}(b nn g:Nat)(D0:DataW H)(R:Value->Option (DataW H×List MemPlace))(W:World)(hown:W.ownsMap Tryz.prog 3 R b nn D0)(hg:W.cell? ⟨g,0,none⟩=some (.map (some b)))(hgl:g<W.heap.size)
  (hmax:Maps.size D0<=maxLen) (hbytes:Maps.size D0*8<=140737488355328):
  Calls Tryz.prog 27 #[.func (.func 56) #[] #[.pointer (some ⟨g,0,none⟩)]] W (SortedK D0 W):=by
 have hseq:=AnyZI.keys_gives (ρ:=Tryz.keysT_ren) {Tryz.keysT with} Fence.wide 2 trivial rfl (by omega) g b nn D0 W hgl hg hown
 have cS:=AnyZI.sorted_in Tryz.sortedT Fence.wide 5 trivial trivial trivial trivial rfl (by omega) (sortsT _) (enters_of Tryz.func40 (by kernel_rfl) rfl) 56 #[.pointer (some ⟨g,0,none⟩)] trivial (enters_of Tryz.func56 (by kernel_rfl) rfl) _ _ hmax hbytes _ hseq
 change CallsIn _ _ Tryz.prog 27 _ _ _ at cS
 exact(callsIn_wide (n:=5)).1 cS
theorem sortedR_any{H:Type}(b nn g:Nat)(D0:DataW H)(R:Value->Option (DataW H×List MemPlace))(W:World)(hown:W.ownsMap Tryz.prog 3 R b nn D0)(hg:W.cell? ⟨g,0,none⟩=some (.map (some b)))(hgl:g<W.heap.size)
  (hmax:Maps.size D0<=maxLen) (hbytes:Maps.size D0*8<=140737488355328):
  Calls Tryz.prog 27 #[.func (.func 55) #[] #[.pointer (some ⟨g,0,none⟩)]] W (SortedK D0 W):=by
 have hseq:=AnyZI.keys_gives (ρ:=Tryz.keysR_ren) {Tryz.keysR with} Fence.wide 2 trivial rfl (by omega) g b nn D0 W hgl hg hown
 have cS:=AnyZI.sorted_in Tryz.sortedT Fence.wide 5 trivial trivial trivial trivial rfl (by omega) (sortsT _) (enters_of Tryz.func40 (by kernel_rfl) rfl) 55 #[.pointer (some ⟨g,0,none⟩)] trivial (enters_of Tryz.func55 (by kernel_rfl) rfl) _ _ hmax hbytes _ hseq
 change CallsIn _ _ Tryz.prog 27 _ _ _ at cS
 exact(callsIn_wide (n:=5)).1 cS
end Go.Proofs.YtbjegfpfmnleeaaGreatDoor
