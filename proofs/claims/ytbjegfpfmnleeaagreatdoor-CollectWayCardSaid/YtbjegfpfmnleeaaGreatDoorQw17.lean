/-
   Written by an AI agent.
-/
import Derived.Test.YtbjegfpfmnleeaaGreatDoorProg
import Derived.Test.YtbjegfpfmnleeaaGreatDoorQw04
import Derived.Test.YtbjegfpfmnleeaaGreatDoorQw14
import Derived.Test.YtbjegfpfmnleeaaGreatDoorQw15
namespace Go.Proofs.YtbjegfpfmnleeaaGreatDoor
open Go.RowKit Go.Sort
set_option maxRecDepth 100000
variable {a:Act} {w:World} {df:List Deferred} {N:Act->World->Prop} {Q:Exit->Act->World->Prop} {l:List (Nat×Value)}
noncomputable def r_so (n:Nat):Code:=((Tryz.f27.body.bind (findR n)).getD .skip)
noncomputable def soBody:Code:=(.seq (r_so 0) (.seq (r_so 1) (.seq (r_so 2) (.seq (r_so 3) .ret))))
theorem so_body:Tryz.f27.body=some soBody:=by kernel_rfl
theorem so_r0(hs:Sl 9 a l df)
  (hN: ∀a',Sl 9 a' ((2,.slice none 0 0)::dropL [2] l) df->N a' w):Rg N Q a w (r_so 0):=
 reg (l0:=[]) [2] [2] [] hs trivial hN (by kernel_rfl)
theorem so_r1{x:Value}{C0:S3->World->Prop}(hs:Sl 9 a l df)(e0:Lk l 0 (x))(k0:Ca 50 #[x] w fun e w'=> ∃q:S3,e=.returned (.slice q.d q.n q.c)/\C0 q w')
  (hN: ∀a' (q:S3) (w1:World),C0 q w1->Sl 9 a' ((3,.slice q.d q.n q.c)::dropL [3,4,5] l) df->N a' w1):Rg N Q a w (r_so 1):=
 reg (l0:=[(0,x)]) [3] [3,4,5] [.ex (S3) (fun q=>.slice q.d q.n q.c) C0] hs ⟨e0,trivial⟩ (aI k0 (fun(q:S3) (w1:World) (hc0:C0 q w1)=>(fun a'=>hN a' q w1 hc0))) (by kernel_rfl)
theorem so_r2{sd:Option Addr}{sn sc:Nat}{C0:World->Prop}(hs:Sl 9 a l df)(e3:Lk l 3 (.slice sd sn sc))(k0:Cl 40 #[.slice sd sn sc] w (.tuple #[]) C0)
  (hN: ∀a' (w1:World),C0 w1->Sl 9 a' (dropL [6,7] l) df->N a' w1):Rg N Q a w (r_so 2):=
 reg (l0:=[(3,.slice sd sn sc)]) [] [6,7] [.ret (.tuple #[]) C0] hs ⟨e3,trivial⟩ (aI k0 (fun(w1:World) (hc0:C0 w1)=>(fun a'=>hN a' w1 hc0))) (by kernel_rfl)
theorem so_r3{sd:Option Addr}{sn sc:Nat}(hs:Sl 9 a l df)(e3:Lk l 3 (.slice sd sn sc))
  (hN: ∀a',Sl 9 a' ((2,.slice sd sn sc)::dropL [2,8] l) df->N a' w):Rg N Q a w (r_so 3):=
 reg (l0:=[(3,.slice sd sn sc)]) [2] [2,8] [] hs ⟨e3,trivial⟩ hN (by kernel_rfl)
noncomputable def r_sl (n:Nat):Code:=((Tryz.f50.body.bind (findR n)).getD .skip)
noncomputable def slBody:Code:=(.seq (r_sl 0) (.seq (r_sl 1) .ret))
theorem sl_body:Tryz.f50.body=some slBody:=by kernel_rfl
theorem sl_r0(hs:Sl 5 a l df)
  (hN: ∀a',Sl 5 a' ((2,.slice none 0 0)::dropL [2] l) df->N a' w):Rg N Q a w (r_sl 0):=
 reg (l0:=[]) [2] [2] [] hs trivial hN (by kernel_rfl)
theorem sl_r1{x:Value}{C0:S3->World->Prop}(hs:Sl 5 a l df)(e0:Lk l 0 (x))(k0:Ca 76 #[.slice none 0 0,x] w fun e w'=> ∃q:S3,e=.returned (.slice q.d q.n q.c)/\C0 q w')
  (hN: ∀a' (q:S3) (w1:World),C0 q w1->Sl 5 a' ((2,.slice q.d q.n q.c)::dropL [2,3,4] l) df->N a' w1):Rg N Q a w (r_sl 1):=
 reg (l0:=[(0,x)]) [2] [2,3,4] [.ex (S3) (fun q=>.slice q.d q.n q.c) C0] hs ⟨e0,trivial⟩ (aI k0 (fun(q:S3) (w1:World) (hc0:C0 q w1)=>(fun a'=>hN a' q w1 hc0))) (by kernel_rfl)
noncomputable def r_sa (n:Nat):Code:=((Tryz.f76.body.bind (findR n)).getD .skip)
noncomputable def saBody:Code:=(.seq (r_sa 0) (.seq (.seq (r_sa 1) (.block 0 (.rangeFunc (.tmp 6) #[7] (r_sa 2) (.block 1 (r_sa 3))))) (.seq (r_sa 4) .ret)))
theorem sa_body:Tryz.f76.body=some saBody:=by kernel_rfl
theorem sa_r0{sd:Option Addr}{sn sc:Nat}(hs:Sl 13 a l df)(e0:Lk l 0 (.slice sd sn sc))
  (hN: ∀a',Sl 13 a' ((2,pT w.heap.size)::(4,.slice none 0 0)::dropL [2,4] l) df->N a' (w.alloc (.cells #[.slice sd sn sc] 24))):Rg N Q a w (r_sa 0):=
 reg (l0:=[(0,.slice sd sn sc)]) [2,4] [2,4] [.raw] hs ⟨e0,trivial⟩ hN (by kernel_rfl)
theorem sa_r1{x:Value}(hs:Sl 13 a l df)(e1:Lk l 1 (x))
  (hN: ∀a',Sl 13 a' ((6,x)::dropL [6] l) df->N a' w):Rg N Q a w (r_sa 1):=
 reg (l0:=[(1,x)]) [6] [6] [] hs ⟨e1,trivial⟩ hN (by kernel_rfl)
theorem sa_r2{n:Int}(hs:Sl 13 a l df)(e7:Lk l 7 (ii n))
  (hN: ∀a',Sl 13 a' ((5,ii n)::dropL [5] l) df->N a' w):Rg N Q a w (r_sa 2):=
 reg (l0:=[(7,ii n)]) [5] [5] [] hs ⟨e7,trivial⟩ hN (by kernel_rfl)
theorem sa_r3{g2 on oc:Nat}{od:Option Addr}{n:Int}{C0:World->S3->World->Prop}(hs:Sl 13 a l df)(e2:Lk l 2 (pT g2))(e5:Lk l 5 (ii n))(l0:Lp 24 (pT g2) (.slice od on oc) w)(k1: ∀ty,∃v w',(Builtin.append_ #[24,24] ty #[.slice od on oc,.slice (some ⟨w.heap.size,0,none⟩) 1 1]).run Tryz.prog (w.alloc (.cells #[ii n] 3))=.ok v.v w'/\C0 (w.alloc (.cells #[ii n] 3)) v w')(s2: ∀(x11:S3) (w1:World),C0 (w.alloc (.cells #[ii n] 3)) x11 w1->So 24 g2 0 (.slice x11.d x11.n x11.c) w1 [.slice x11.d x11.n x11.c])
  (hN: ∀a' (x11:S3) (w1:World),C0 (w.alloc (.cells #[ii n] 3)) x11 w1->Sl 13 a' (dropL [8,9,10,11] l) df->N a' (w1.setCells g2 0 [.slice x11.d x11.n x11.c])):Rg N Q a w (r_sa 3):=
 reg (l0:=[(2,pT g2),(5,ii n)]) [] [8,9,10,11] [.val (.slice od on oc),.raw,.apxw S3 S3.v C0,.sto] hs ⟨e2,e5,trivial⟩ (aI l0.run (aI k1 (fun(x11:S3) (w1:World) (hc0:C0 (w.alloc (.cells #[ii n] 3)) x11 w1)=>(aI (s2 x11 w1 hc0) (fun a'=>hN a' x11 w1 hc0))))) (by kernel_rfl)
theorem sa_r4{g2 on oc:Nat}{od:Option Addr}(hs:Sl 13 a l df)(e2:Lk l 2 (pT g2))(l0:Lp 24 (pT g2) (.slice od on oc) w)
  (hN: ∀a',Sl 13 a' ((4,.slice od on oc)::dropL [4,12] l) df->N a' w):Rg N Q a w (r_sa 4):=
 reg (l0:=[(2,pT g2)]) [4] [4,12] [.val (.slice od on oc)] hs ⟨e2,trivial⟩ (aI l0.run hN) (by kernel_rfl)
noncomputable def r_sv (n:Nat):Code:=((Tryz.f28.body.bind (findR n)).getD .skip)
noncomputable def svBody:Code:=(.seq (r_sv 0) (.seq (r_sv 1) .ret))
theorem sv_body:Tryz.f28.body=some svBody:=by kernel_rfl
theorem sv_r0{sd:Option Addr}{sn sc:Nat}(hs:Sl 4 a l df)(e0:Lk l 0 (.slice sd sn sc))
  (hN: ∀a',Sl 4 a' ((1,pT w.heap.size)::(2,.nilFunc)::dropL [1,2] l) df->N a' (w.alloc (.cells #[.slice sd sn sc] 24))):Rg N Q a w (r_sv 0):=
 reg (l0:=[(0,.slice sd sn sc)]) [1,2] [1,2] [.raw] hs ⟨e0,trivial⟩ hN (by kernel_rfl)
theorem sv_r1{g1:Nat}(hs:Sl 4 a l df)(e1:Lk l 1 (pT g1))
  (hN: ∀a',Sl 4 a' ((2,.func (.func 51) #[] #[pT g1])::dropL [2,3] l) df->N a' w):Rg N Q a w (r_sv 1):=
 reg (l0:=[(1,pT g1)]) [2] [2,3] [] hs ⟨e1,trivial⟩ hN (by kernel_rfl)
noncomputable def r_sw (n:Nat):Code:=((Tryz.f51.body.bind (findR n)).getD .skip)
noncomputable def swL0:Code:=(.seq (r_sw 1) (.seq (.cond (.tmp 8) .skip (.exit 0)) (.seq (.block 1 (.seq (r_sw 2) (.seq (r_sw 3) (.cond (.tmp 14) .ret .skip)))) (r_sw 4))))
noncomputable def swBody:Code:=(.seq (r_sw 0) (.block 0 (.loop swL0)))
theorem sw_body:Tryz.f51.body=some swBody:=by kernel_rfl
theorem sw_r0{g1 sn sc:Nat}{sd:Option Addr}(hs:Sl 16 a l df)(e1:Lk l 1 (pT g1))(l0:Lp 24 (pT g1) (.slice sd sn sc) w)
  (hN: ∀a',Sl 16 a' ((5,.slice sd sn sc)::(6,ii (sn:Int))::(7,ii 0)::dropL [5,6,7] l) df->N a' w):Rg N Q a w (r_sw 0):=
 reg (l0:=[(1,pT g1)]) [5,6,7] [5,6,7] [.val (.slice sd sn sc)] hs ⟨e1,trivial⟩ (aI l0.run hN) (by kernel_rfl)
theorem sw_r1{i sn:Nat}{b8:Bool}(hs:Sl 16 a l df)(e7:Lk l 7 (ii (i:Int)))(e6:Lk l 6 (ii (sn:Int)))(h0:decide ((i:Int)<(sn:Int))=b8)
  (hN: ∀a',Sl 16 a' ((8,.bool b8)::dropL [8] l) df->N a' w):Rg N Q a w (r_sw 1):=
 reg (l0:=[(7,ii (i:Int)),(6,ii (sn:Int))]) [8] [8] [.bit b8] hs ⟨e7,e6,trivial⟩ (aI h0 hN) (by kernel_rfl)
theorem sw_r2{sd:Option Addr}{sn sc i g9 o9:Nat}{x:Int}(hs:Sl 16 a l df)(e5:Lk l 5 (.slice sd sn sc))(e7:Lk l 7 (ii (i:Int)))(i0:Ix 24 (.slice sd sn sc) (ii (i:Int)) (pF g9 o9))(l1:Lp 3 (pF g9 o9) (ii x) w)
  (hN: ∀a',Sl 16 a' ((4,ii x)::dropL [4,9,10] l) df->N a' w):Rg N Q a w (r_sw 2):=
 reg (l0:=[(5,.slice sd sn sc),(7,ii (i:Int))]) [4] [4,9,10] [.val (pF g9 o9),.val (ii x)] hs ⟨e5,e7,trivial⟩ (aI (i0 w) (aI l1.run hN)) (by kernel_rfl)
theorem sw_r3{yl:Nat}{x:Int}{C0:Bool->World->Prop}(hs:Sl 16 a l df)(e0:Lk l 0 (.func (.yield yl) #[] #[]))(e4:Lk l 4 (ii x))(k0:YieldAt Fence.wide 7 Tryz.prog yl #[ii x] w fun e w'=> ∃x13:Bool,e=.returned (.bool x13)/\C0 x13 w')
  (hN: ∀a' (x13:Bool) (w1:World),C0 x13 w1->Sl 16 a' ((14,.bool (!x13))::dropL [11,12,13,14] l) df->N a' w1):(r_sw 3).wp Tryz.prog (Exit.then N Q) a w:=
 regY (l0:=[(0,.func (.yield yl) #[] #[]),(4,ii x)]) [14] [11,12,13,14] [.ex Bool (fun x13=>.bool x13) C0] hs ⟨e0,e4,trivial⟩ (aI k0 (fun(x13:Bool) (w1:World) (hc0:C0 x13 w1)=>(fun a'=>hN a' x13 w1 hc0))) (by kernel_rfl)
theorem sw_r4{i:Nat}(hs:Sl 16 a l df)(e7:Lk l 7 (ii (i:Int)))(h0: -9223372036854775808<=(i:Int)+1/\(i:Int)+1<=9223372036854775807)
  (hN: ∀a',Sl 16 a' ((7,ii ((i:Int)+1))::dropL [7,15] l) df->N a' w):Rg N Q a w (r_sw 4):=
 reg (l0:=[(7,ii (i:Int))]) [7] [7,15] [.ari] hs ⟨e7,trivial⟩ (aI h0 hN) (by kernel_rfl)
noncomputable def r_cc (n:Nat):Code:=((Tryz.f53.body.bind (findR n)).getD .skip)
noncomputable def ccBody:Code:=(.seq (r_cc 0) (.seq (r_cc 1) (.cond (.tmp 21) (.seq (r_cc 2) (r_cc 3)) .skip)))
theorem cc_body:Tryz.f53.body=some ccBody:=by kernel_rfl
theorem cc_r1t{was:Int}{b20:Bool}(hs:Sl 38 a l df)(e7:Lk l 7 (.bool true))(e6:Lk l 6 (ii was))(h0:decide (was=0)=b20)
  (hN: ∀a',Sl 38 a' ((21,.bool b20)::dropL [17,18,19,20,21] l) df->N a' w):Rg N Q a w (r_cc 1):=
 reg (l0:=[(7,.bool true),(6,ii was)]) [21] [17,18,19,20,21] [.bit b20] hs ⟨e7,e6,trivial⟩ (aI h0 hN) (by kernel_rfl)
theorem cc_r1f(hs:Sl 38 a l df)(e7:Lk l 7 (.bool false))
  (hN: ∀a',Sl 38 a' ((21,.bool false)::dropL [17,18,19,20,21] l) df->N a' w):Rg N Q a w (r_cc 1):=
 reg (l0:=[(7,.bool false)]) [21] [17,18,19,20,21] [] hs ⟨e7,trivial⟩ hN (by kernel_rfl)
theorem cc_r0{rp bt:Nat}{n was:Int}{ok:Bool}(hs:Sl 38 a l df)(e0:Lk l 0 (pT rp))(e1:Lk l 1 (ii n))(l0:Lp 67 (pF rp 1) (.map (some bt)) w)(l1:Lkp Tryz.prog 67 (.map (some bt)) (ii n) true (.tuple #[ii was,.bool ok]) w)
  (hN: ∀a',Sl 38 a' ((6,ii was)::(7,.bool ok)::dropL (List.range' 6 11) l) df->N a' w):Rg N Q a w (r_cc 0):=
 reg (l0:=[(0,pT rp),(1,ii n)]) [6,7] (List.range' 6 11) [.val (.map (some bt)),.val (.tuple #[ii was,.bool ok])] hs ⟨e0,e1,trivial⟩ (aI l0.run (aI l1.run hN)) (by kernel_rfl)
theorem cc_r2{rp bt:Nat}{n bz:Int}{wu6:World}(hs:Sl 38 a l df)(e0:Lk l 0 (pT rp))(e1:Lk l 1 (ii n))(e2:Lk l 2 (ii bz))(l0:Lp 67 (pF rp 1) (.map (some bt)) w)(m1:(Instr.mapUpdate 67 (.map (some bt)) (ii n) (ii bz)).run Tryz.prog w=.ok () wu6)
  (hN: ∀a',Sl 38 a' (dropL [22,23,24,25,26,27] l) df->N a' wu6):Rg N Q a w (r_cc 2):=
 reg (l0:=[(0,pT rp),(1,ii n),(2,ii bz)]) [] [22,23,24,25,26,27] [.val (.map (some bt)),.wld wu6] hs ⟨e0,e1,e2,trivial⟩ (aI l0.run (aI m1 hN)) (by kernel_rfl)
theorem cc_r3{rp on oc:Nat}{od:Option Addr}{n:Int}{C0:World->S3->World->Prop}(hs:Sl 38 a l df)(e0:Lk l 0 (pT rp))(e1:Lk l 1 (ii n))(l0:Lp 24 (pF rp 2) (.slice od on oc) w)(k1: ∀ty,∃v w',(Builtin.append_ #[24,24] ty #[.slice od on oc,.slice (some ⟨w.heap.size,0,none⟩) 1 1]).run Tryz.prog (w.alloc (.cells #[ii n] 3))=.ok v.v w'/\C0 (w.alloc (.cells #[ii n] 3)) v w')(s2: ∀(x35:S3) (w1:World),C0 (w.alloc (.cells #[ii n] 3)) x35 w1->So 24 rp 2 (.slice x35.d x35.n x35.c) w1 [.slice x35.d x35.n x35.c])
  (hN: ∀a' (x35:S3) (w1:World),C0 (w.alloc (.cells #[ii n] 3)) x35 w1->Sl 38 a' (dropL (List.range' 28 10) l) df->N a' (w1.setCells rp 2 [.slice x35.d x35.n x35.c])):Rg N Q a w (r_cc 3):=
 reg (l0:=[(0,pT rp),(1,ii n)]) [] (List.range' 28 10) [.val (.slice od on oc),.raw,.apxw S3 S3.v C0,.sto] hs ⟨e0,e1,trivial⟩ (aI l0.run (aI k1 (fun(x35:S3) (w1:World) (hc0:C0 (w.alloc (.cells #[ii n] 3)) x35 w1)=>(aI (s2 x35 w1 hc0) (fun a'=>hN a' x35 w1 hc0))))) (by kernel_rfl)
noncomputable def r_cn (n:Nat):Code:=((Tryz.f52.body.bind (findR n)).getD .skip)
noncomputable def cnL0:Code:=(.seq (r_cn 5) (.seq (.cond (.tmp 24) .skip (.exit 0)) (.seq (.block 1 (.seq (r_cn 6) (r_cn 7))) (r_cn 8))))
noncomputable def cnBody:Code:=(.seq (r_cn 0) (.seq (.seq (r_cn 1) (.cond (.tmp 10) (r_cn 2) .skip)) (.seq (.seq (r_cn 3) (.cond (.tmp 19) (.seq (r_cn 4) (.block 0 (.loop cnL0))) .skip)) (.seq (r_cn 9) .ret))))
theorem cn_body:Tryz.f52.body=some cnBody:=by kernel_rfl
theorem cn_r0{d:Dt}{m:Dm}(hs:Sl 32 a l df)(e1:Lk l 1 (.agg (d.cs m)))
  (hN: ∀a',Sl 32 a' ((3,pT w.heap.size)::(4,.slice none 0 0)::dropL [3,4] l) df->N a' (w.alloc (.cells (d.cs m) 53))):Rg N Q a w (r_cn 0):=
 reg (l0:=[(1,.agg (d.cs m))]) [3,4] [3,4] [.raw] hs ⟨e1,trivial⟩ hN (by kernel_rfl)
theorem cn_r1{g3:Nat}{o:Int}{b10:Bool}(hs:Sl 32 a l df)(e3:Lk l 3 (pT g3))(l0:Lp 3 (pF g3 (5+0)) (ii o) w)(h1:decide (o≠0)=b10)
  (hN: ∀a',Sl 32 a' ((10,.bool b10)::dropL [7,8,9,10] l) df->N a' w):Rg N Q a w (r_cn 1):=
 reg (l0:=[(3,pT g3)]) [10] [7,8,9,10] [.val (ii o),.bit b10] hs ⟨e3,trivial⟩ (aI l0.run (aI h1 hN)) (by kernel_rfl)
theorem cn_r2{od:Option Addr}{on oc g3:Nat}{o:Int}{C0:World->S3->World->Prop}(hs:Sl 32 a l df)(e0:Lk l 0 (.slice od on oc))(e3:Lk l 3 (pT g3))(l0:Lp 3 (pF g3 (5+0)) (ii o) w)(k1: ∀ty,∃v w',(Builtin.append_ #[24,24] ty #[.slice od on oc,.slice (some ⟨w.heap.size,0,none⟩) 1 1]).run Tryz.prog (w.alloc (.cells #[ii o] 3))=.ok v.v w'/\C0 (w.alloc (.cells #[ii o] 3)) v w')
  (hN: ∀a' (x16:S3) (w1:World),C0 (w.alloc (.cells #[ii o] 3)) x16 w1->Sl 32 a' ((0,.slice x16.d x16.n x16.c)::dropL (0::List.range' 11 6) l) df->N a' w1):Rg N Q a w (r_cn 2):=
 reg (l0:=[(0,.slice od on oc),(3,pT g3)]) [0] (0::List.range' 11 6) [.val (ii o),.raw,.apxw S3 S3.v C0] hs ⟨e0,e3,trivial⟩ (aI l0.run (aI k1 (fun(x16:S3) (w1:World) (hc0:C0 (w.alloc (.cells #[ii o] 3)) x16 w1)=>(fun a'=>hN a' x16 w1 hc0)))) (by kernel_rfl)
theorem cn_r3{g3:Nat}{k:Int}{b19:Bool}(hs:Sl 32 a l df)(e3:Lk l 3 (pT g3))(l0:Lp 3 (pT g3) (ii k) w)(h1:decide (k=8)=b19)
  (hN: ∀a',Sl 32 a' ((19,.bool b19)::dropL [17,18,19] l) df->N a' w):Rg N Q a w (r_cn 3):=
 reg (l0:=[(3,pT g3)]) [19] [17,18,19] [.val (ii k),.bit b19] hs ⟨e3,trivial⟩ (aI l0.run (aI h1 hN)) (by kernel_rfl)
theorem cn_r4{g3 sn sc:Nat}{sd:Option Addr}(hs:Sl 32 a l df)(e3:Lk l 3 (pT g3))(l0:Lp 23 (pF g3 10) (.slice sd sn sc) w)
  (hN: ∀a',Sl 32 a' ((21,.slice sd sn sc)::(22,ii (sn:Int))::(23,ii 0)::dropL [20,21,22,23] l) df->N a' w):Rg N Q a w (r_cn 4):=
 reg (l0:=[(3,pT g3)]) [21,22,23] [20,21,22,23] [.val (.slice sd sn sc)] hs ⟨e3,trivial⟩ (aI l0.run hN) (by kernel_rfl)
theorem cn_r5{i sn:Nat}{b24:Bool}(hs:Sl 32 a l df)(e23:Lk l 23 (ii (i:Int)))(e22:Lk l 22 (ii (sn:Int)))(h0:decide ((i:Int)<(sn:Int))=b24)
  (hN: ∀a',Sl 32 a' ((24,.bool b24)::dropL [24] l) df->N a' w):Rg N Q a w (r_cn 5):=
 reg (l0:=[(23,ii (i:Int)),(22,ii (sn:Int))]) [24] [24] [.bit b24] hs ⟨e23,e22,trivial⟩ (aI h0 hN) (by kernel_rfl)
theorem cn_r6{sd:Option Addr}{sn sc i g25 o25:Nat}{x:Dt}{mx:Dm}(hs:Sl 32 a l df)(e21:Lk l 21 (.slice sd sn sc))(e23:Lk l 23 (ii (i:Int)))(i0:Ix 23 (.slice sd sn sc) (ii (i:Int)) (pF g25 o25))(l1:Lp 53 (pF g25 o25) (.agg (x.cs mx)) w)(s2:So 53 w.heap.size 0 (.agg (x.cs mx)) (w.alloc (.cells zA 53)) (x.cs mx).toList)
  (hN: ∀a',Sl 32 a' ((6,pT w.heap.size)::dropL [6,25,26] l) df->N a' ((w.alloc (.cells zA 53)).setCells w.heap.size 0 (x.cs mx).toList)):Rg N Q a w (r_cn 6):=
 reg (l0:=[(21,.slice sd sn sc),(23,ii (i:Int))]) [6] [6,25,26] [.val (pF g25 o25),.val (.agg (x.cs mx)),.raw,.sto] hs ⟨e21,e23,trivial⟩ (aI (i0 w) (aI l1.run (aI s2 hN))) (by kernel_rfl)
theorem cn_r7{od:Option Addr}{on oc g6:Nat}{x:Dt}{mx:Dm}{C0:S3->World->Prop}(hs:Sl 32 a l df)(e0:Lk l 0 (.slice od on oc))(e6:Lk l 6 (pT g6))(l0:Lp 53 (pT g6) (.agg (x.cs mx)) w)(k1:Ca 52 #[.slice od on oc,.agg (x.cs mx)] w fun e w'=> ∃q:S3,e=.returned (.slice q.d q.n q.c)/\C0 q w')
  (hN: ∀a' (q:S3) (w1:World),C0 q w1->Sl 32 a' ((0,.slice q.d q.n q.c)::dropL [0,27,28,29] l) df->N a' w1):Rg N Q a w (r_cn 7):=
 reg (l0:=[(0,.slice od on oc),(6,pT g6)]) [0] [0,27,28,29] [.val (.agg (x.cs mx)),.ex (S3) (fun q=>.slice q.d q.n q.c) C0] hs ⟨e0,e6,trivial⟩ (aI l0.run (aI k1 (fun(q:S3) (w1:World) (hc0:C0 q w1)=>(fun a'=>hN a' q w1 hc0)))) (by kernel_rfl)
theorem cn_r8{i:Nat}(hs:Sl 32 a l df)(e23:Lk l 23 (ii (i:Int)))(h0: -9223372036854775808<=(i:Int)+1/\(i:Int)+1<=9223372036854775807)
  (hN: ∀a',Sl 32 a' ((23,ii ((i:Int)+1))::dropL [23,30] l) df->N a' w):Rg N Q a w (r_cn 8):=
 reg (l0:=[(23,ii (i:Int))]) [23] [23,30] [.ari] hs ⟨e23,trivial⟩ (aI h0 hN) (by kernel_rfl)
theorem cn_r9{od:Option Addr}{on oc:Nat}(hs:Sl 32 a l df)(e0:Lk l 0 (.slice od on oc))
  (hN: ∀a',Sl 32 a' ((4,.slice od on oc)::dropL [4,31] l) df->N a' w):Rg N Q a w (r_cn 9):=
 reg (l0:=[(0,.slice od on oc)]) [4] [4,31] [] hs ⟨e0,trivial⟩ hN (by kernel_rfl)
noncomputable def r_ck (n:Nat):Code:=((Tryz.f29.body.bind (findR n)).getD .skip)
noncomputable def ckL0:Code:=(.seq (r_ck 25) (.seq (.cond (.tmp 82) .skip (.exit 6)) (.seq (.block 7 (.seq (r_ck 26) (r_ck 27))) (r_ck 28))))
noncomputable def ckL1:Code:=(.seq (r_ck 17) (.seq (.cond (.tmp 55) .skip (.exit 4)) (.seq (.block 5 (.seq (r_ck 18) (r_ck 19))) (r_ck 20))))
noncomputable def ckL2:Code:=(.seq (r_ck 11) (.seq (.cond (.tmp 43) .skip (.exit 2)) (.seq (.block 3 (.seq (r_ck 12) (r_ck 13))) (r_ck 14))))
noncomputable def ckL3:Code:=(.seq (r_ck 5) (.seq (.cond (.tmp 29) .skip (.exit 0)) (.seq (.block 1 (.seq (r_ck 6) (r_ck 7))) (r_ck 8))))
noncomputable def ckBody:Code:=(.seq (r_ck 0) (.scope (.seq (r_ck 1) (.seq (.seq (r_ck 2) (.cond (.tmp 23) (.seq (r_ck 3) .ret) .skip)) (.seq (.seq (r_ck 4) (.block 0 (.loop ckL3))) (.seq (r_ck 9) (.seq (.seq (r_ck 10) (.block 2 (.loop ckL2))) (.seq (r_ck 15) (.seq (.seq (r_ck 16) (.block 4 (.loop ckL1))) (.seq (r_ck 21) (.seq (.label 0) (.seq (.seq (r_ck 22) (.cond (.tmp 69) (.seq (r_ck 23) .ret) .skip)) (.seq (.seq (r_ck 24) (.block 6 (.loop ckL0))) (.seq (r_ck 29) (.goto 0)))))))))))))))
theorem ck_body:Tryz.f29.body=some ckBody:=by kernel_rfl
theorem ck_r0(hs:Sl 98 a l df)
  (hN: ∀a',Sl 98 a' ((6,.pointer none)::dropL [6] l) df->N a' w):Rg N Q a w (r_ck 0):=
 reg (l0:=[]) [6] [6] [] hs trivial hN (by kernel_rfl)
theorem ck_r1{gh:Nat}(hs:Sl 98 a l df)(e0:Lk l 0 (pT gh))
  (hN: ∀a',Sl 98 a' ((7,pT ((w.alloc (.map #[] 0)).heap.size))::dropL [7,18,19,20,21] l) df->N a' ((w.alloc (.map #[] 0)).alloc (.cells #[pT gh,.map (some w.heap.size),.slice none 0 0] 69))):Rg N Q a w (r_ck 1):=
 reg (l0:=[(0,pT gh)]) [7] [7,18,19,20,21] [.raw,.raw,.raw] hs ⟨e0,trivial⟩ hN (by kernel_rfl)
theorem ck_r2{gh:Nat}{b23:Bool}(hs:Sl 98 a l df)(e0:Lk l 0 (pT gh))(h0: ∀w,(binOp .eql 35 (pT gh) (.pointer none)).run Tryz.prog w=.ok (.bool b23) w)
  (hN: ∀a',Sl 98 a' ((23,.bool b23)::dropL [22,23] l) df->N a' w):Rg N Q a w (r_ck 2):=
 reg (l0:=[(0,pT gh)]) [23] [22,23] [.bin (.bool b23)] hs ⟨e0,trivial⟩ (aI (bin_run (x:=.tmp 22) (y:=.const (.pointer none)) (by kernel_rfl) (h0 w)) hN) (by kernel_rfl)
theorem ck_r4{gh:Nat}{C0:S3->World->Prop}(hs:Sl 98 a l df)(e0:Lk l 0 (pT gh))(k0:Ca 19 #[pT gh] w fun e w'=> ∃q:S3,e=.returned (.slice q.d q.n q.c)/\C0 q w')
  (hN: ∀a' (q:S3) (w1:World),C0 q w1->Sl 98 a' ((26,.slice q.d q.n q.c)::(27,ii (q.n:Int))::(28,ii 0)::dropL [25,26,27,28] l) df->N a' w1):Rg N Q a w (r_ck 4):=
 reg (l0:=[(0,pT gh)]) [26,27,28] [25,26,27,28] [.ex (S3) (fun q=>.slice q.d q.n q.c) C0] hs ⟨e0,trivial⟩ (aI k0 (fun(q:S3) (w1:World) (hc0:C0 q w1)=>(fun a'=>hN a' q w1 hc0))) (by kernel_rfl)
theorem ck_r5{i sn:Nat}{b29:Bool}(hs:Sl 98 a l df)(e28:Lk l 28 (ii (i:Int)))(e27:Lk l 27 (ii (sn:Int)))(h0:decide ((i:Int)<(sn:Int))=b29)
  (hN: ∀a',Sl 98 a' ((29,.bool b29)::dropL [29] l) df->N a' w):Rg N Q a w (r_ck 5):=
 reg (l0:=[(28,ii (i:Int)),(27,ii (sn:Int))]) [29] [29] [.bit b29] hs ⟨e28,e27,trivial⟩ (aI h0 hN) (by kernel_rfl)
theorem ck_r6{sd:Option Addr}{sn sc i g30 o30:Nat}{x:Int}(hs:Sl 98 a l df)(e26:Lk l 26 (.slice sd sn sc))(e28:Lk l 28 (ii (i:Int)))(i0:Ix 24 (.slice sd sn sc) (ii (i:Int)) (pF g30 o30))(l1:Lp 3 (pF g30 o30) (ii x) w)
  (hN: ∀a',Sl 98 a' ((9,ii x)::dropL [9,30,31] l) df->N a' w):Rg N Q a w (r_ck 6):=
 reg (l0:=[(26,.slice sd sn sc),(28,ii (i:Int))]) [9] [9,30,31] [.val (pF g30 o30),.val (ii x)] hs ⟨e26,e28,trivial⟩ (aI (i0 w) (aI l1.run hN)) (by kernel_rfl)
theorem ck_r7{rp bt:Nat}{x:Int}{wu5:World}(hs:Sl 98 a l df)(e7:Lk l 7 (pT rp))(e9:Lk l 9 (ii x))(l0:Lp 67 (pF rp 1) (.map (some bt)) w)(m1:(Instr.mapUpdate 67 (.map (some bt)) (ii x) (ii 0)).run Tryz.prog w=.ok () wu5)
  (hN: ∀a',Sl 98 a' (dropL [32,33,34,35,36] l) df->N a' wu5):Rg N Q a w (r_ck 7):=
 reg (l0:=[(7,pT rp),(9,ii x)]) [] [32,33,34,35,36] [.val (.map (some bt)),.wld wu5] hs ⟨e7,e9,trivial⟩ (aI l0.run (aI m1 hN)) (by kernel_rfl)
theorem ck_r8{i:Nat}(hs:Sl 98 a l df)(e28:Lk l 28 (ii (i:Int)))(h0: -9223372036854775808<=(i:Int)+1/\(i:Int)+1<=9223372036854775807)
  (hN: ∀a',Sl 98 a' ((28,ii ((i:Int)+1))::dropL [28,37] l) df->N a' w):Rg N Q a w (r_ck 8):=
 reg (l0:=[(28,ii (i:Int))]) [28] [28,37] [.ari] hs ⟨e28,trivial⟩ (aI h0 hN) (by kernel_rfl)
theorem ck_r9{bd:Option Addr}{bn bc:Nat}{C0:S3->World->Prop}(hs:Sl 98 a l df)(e2:Lk l 2 (.slice bd bn bc))(k0:Ca 39 #[.slice bd bn bc] w fun e w'=> ∃q:S3,e=.returned (.slice q.d q.n q.c)/\C0 q w')
  (hN: ∀a' (q:S3) (w1:World),C0 q w1->Sl 98 a' ((10,.slice q.d q.n q.c)::dropL [10,38,39] l) df->N a' w1):Rg N Q a w (r_ck 9):=
 reg (l0:=[(2,.slice bd bn bc)]) [10] [10,38,39] [.ex (S3) (fun q=>.slice q.d q.n q.c) C0] hs ⟨e2,trivial⟩ (aI k0 (fun(q:S3) (w1:World) (hc0:C0 q w1)=>(fun a'=>hN a' q w1 hc0))) (by kernel_rfl)
theorem ck_r10{ld:Option Addr}{ln lc:Nat}(hs:Sl 98 a l df)(e1:Lk l 1 (.slice ld ln lc))
  (hN: ∀a',Sl 98 a' ((40,.slice ld ln lc)::(41,ii (ln:Int))::(42,ii 0)::dropL [40,41,42] l) df->N a' w):Rg N Q a w (r_ck 10):=
 reg (l0:=[(1,.slice ld ln lc)]) [40,41,42] [40,41,42] [] hs ⟨e1,trivial⟩ hN (by kernel_rfl)
theorem ck_r11{i ln:Nat}{b43:Bool}(hs:Sl 98 a l df)(e42:Lk l 42 (ii (i:Int)))(e41:Lk l 41 (ii (ln:Int)))(h0:decide ((i:Int)<(ln:Int))=b43)
  (hN: ∀a',Sl 98 a' ((43,.bool b43)::dropL [43] l) df->N a' w):Rg N Q a w (r_ck 11):=
 reg (l0:=[(42,ii (i:Int)),(41,ii (ln:Int))]) [43] [43] [.bit b43] hs ⟨e42,e41,trivial⟩ (aI h0 hN) (by kernel_rfl)
theorem ck_r12{ld:Option Addr}{ln lc i g44 o44:Nat}{d:Dt}{m:Dm}(hs:Sl 98 a l df)(e40:Lk l 40 (.slice ld ln lc))(e42:Lk l 42 (ii (i:Int)))(i0:Ix 23 (.slice ld ln lc) (ii (i:Int)) (pF g44 o44))(l1:Lp 53 (pF g44 o44) (.agg (d.cs m)) w)(s2:So 53 w.heap.size 0 (.agg (d.cs m)) (w.alloc (.cells zA 53)) (d.cs m).toList)
  (hN: ∀a',Sl 98 a' ((12,pT w.heap.size)::dropL [12,44,45] l) df->N a' ((w.alloc (.cells zA 53)).setCells w.heap.size 0 (d.cs m).toList)):Rg N Q a w (r_ck 12):=
 reg (l0:=[(40,.slice ld ln lc),(42,ii (i:Int))]) [12] [12,44,45] [.val (pF g44 o44),.val (.agg (d.cs m)),.raw,.sto] hs ⟨e40,e42,trivial⟩ (aI (i0 w) (aI l1.run (aI s2 hN))) (by kernel_rfl)
theorem ck_r13{od:Option Addr}{on oc g12:Nat}{d:Dt}{m:Dm}{C0:S3->World->Prop}(hs:Sl 98 a l df)(e10:Lk l 10 (.slice od on oc))(e12:Lk l 12 (pT g12))(l0:Lp 53 (pT g12) (.agg (d.cs m)) w)(k1:Ca 52 #[.slice od on oc,.agg (d.cs m)] w fun e w'=> ∃q:S3,e=.returned (.slice q.d q.n q.c)/\C0 q w')
  (hN: ∀a' (q:S3) (w1:World),C0 q w1->Sl 98 a' ((10,.slice q.d q.n q.c)::dropL [10,46,47,48] l) df->N a' w1):Rg N Q a w (r_ck 13):=
 reg (l0:=[(10,.slice od on oc),(12,pT g12)]) [10] [10,46,47,48] [.val (.agg (d.cs m)),.ex (S3) (fun q=>.slice q.d q.n q.c) C0] hs ⟨e10,e12,trivial⟩ (aI l0.run (aI k1 (fun(q:S3) (w1:World) (hc0:C0 q w1)=>(fun a'=>hN a' q w1 hc0)))) (by kernel_rfl)
theorem ck_r14{i:Nat}(hs:Sl 98 a l df)(e42:Lk l 42 (ii (i:Int)))(h0: -9223372036854775808<=(i:Int)+1/\(i:Int)+1<=9223372036854775807)
  (hN: ∀a',Sl 98 a' ((42,ii ((i:Int)+1))::dropL [42,49] l) df->N a' w):Rg N Q a w (r_ck 14):=
 reg (l0:=[(42,ii (i:Int))]) [42] [42,49] [.ari] hs ⟨e42,trivial⟩ (aI h0 hN) (by kernel_rfl)
theorem ck_r15{od:Option Addr}{on oc:Nat}{C0:World->Prop}(hs:Sl 98 a l df)(e10:Lk l 10 (.slice od on oc))(k0:Cl 40 #[.slice od on oc] w (.tuple #[]) C0)
  (hN: ∀a' (w1:World),C0 w1->Sl 98 a' (dropL [50,51] l) df->N a' w1):Rg N Q a w (r_ck 15):=
 reg (l0:=[(10,.slice od on oc)]) [] [50,51] [.ret (.tuple #[]) C0] hs ⟨e10,trivial⟩ (aI k0 (fun(w1:World) (hc0:C0 w1)=>(fun a'=>hN a' w1 hc0))) (by kernel_rfl)
theorem ck_r16{od:Option Addr}{on oc:Nat}(hs:Sl 98 a l df)(e10:Lk l 10 (.slice od on oc))
  (hN: ∀a',Sl 98 a' ((52,.slice od on oc)::(53,ii (on:Int))::(54,ii 0)::dropL [52,53,54] l) df->N a' w):Rg N Q a w (r_ck 16):=
 reg (l0:=[(10,.slice od on oc)]) [52,53,54] [52,53,54] [] hs ⟨e10,trivial⟩ hN (by kernel_rfl)
theorem ck_r17{i on:Nat}{b55:Bool}(hs:Sl 98 a l df)(e54:Lk l 54 (ii (i:Int)))(e53:Lk l 53 (ii (on:Int)))(h0:decide ((i:Int)<(on:Int))=b55)
  (hN: ∀a',Sl 98 a' ((55,.bool b55)::dropL [55] l) df->N a' w):Rg N Q a w (r_ck 17):=
 reg (l0:=[(54,ii (i:Int)),(53,ii (on:Int))]) [55] [55] [.bit b55] hs ⟨e54,e53,trivial⟩ (aI h0 hN) (by kernel_rfl)
theorem ck_r18{od:Option Addr}{on oc i g56 o56:Nat}{x:Int}(hs:Sl 98 a l df)(e52:Lk l 52 (.slice od on oc))(e54:Lk l 54 (ii (i:Int)))(i0:Ix 24 (.slice od on oc) (ii (i:Int)) (pF g56 o56))(l1:Lp 3 (pF g56 o56) (ii x) w)
  (hN: ∀a',Sl 98 a' ((14,ii x)::dropL [14,56,57] l) df->N a' w):Rg N Q a w (r_ck 18):=
 reg (l0:=[(52,.slice od on oc),(54,ii (i:Int))]) [14] [14,56,57] [.val (pF g56 o56),.val (ii x)] hs ⟨e52,e54,trivial⟩ (aI (i0 w) (aI l1.run hN)) (by kernel_rfl)
theorem ck_r19{rp:Nat}{x:Int}{C0:World->Prop}(hs:Sl 98 a l df)(e7:Lk l 7 (pT rp))(e14:Lk l 14 (ii x))(k0:Cl 53 #[pT rp,ii x,ii x] w (.tuple #[]) C0)
  (hN: ∀a' (w1:World),C0 w1->Sl 98 a' (dropL [58,59,60,61] l) df->N a' w1):Rg N Q a w (r_ck 19):=
 reg (l0:=[(7,pT rp),(14,ii x)]) [] [58,59,60,61] [.ret (.tuple #[]) C0] hs ⟨e7,e14,trivial⟩ (aI k0 (fun(w1:World) (hc0:C0 w1)=>(fun a'=>hN a' w1 hc0))) (by kernel_rfl)
theorem ck_r20{i:Nat}(hs:Sl 98 a l df)(e54:Lk l 54 (ii (i:Int)))(h0: -9223372036854775808<=(i:Int)+1/\(i:Int)+1<=9223372036854775807)
  (hN: ∀a',Sl 98 a' ((54,ii ((i:Int)+1))::dropL [54,62] l) df->N a' w):Rg N Q a w (r_ck 20):=
 reg (l0:=[(54,ii (i:Int))]) [54] [54,62] [.ari] hs ⟨e54,trivial⟩ (aI h0 hN) (by kernel_rfl)
theorem ck_r21(hs:Sl 98 a l df)
  (hN: ∀a',Sl 98 a' ((15,ii 0)::dropL [15] l) df->N a' w):Rg N Q a w (r_ck 21):=
 reg (l0:=[]) [15] [15] [] hs trivial hN (by kernel_rfl)
theorem ck_r22{ai rp tn tc:Nat}{td:Option Addr}{b69:Bool}(hs:Sl 98 a l df)(e15:Lk l 15 (ii (ai:Int)))(e7:Lk l 7 (pT rp))(l0:Lp 24 (pF rp 2) (.slice td tn tc) w)(h1:decide ((ai:Int)=(tn:Int))=b69)
  (hN: ∀a',Sl 98 a' ((69,.bool b69)::dropL (List.range' 63 7) l) df->N a' w):Rg N Q a w (r_ck 22):=
 reg (l0:=[(15,ii (ai:Int)),(7,pT rp)]) [69] (List.range' 63 7) [.val (.slice td tn tc),.bit b69] hs ⟨e15,e7,trivial⟩ (aI l0.run (aI h1 hN)) (by kernel_rfl)
theorem ck_r23{rp:Nat}(hs:Sl 98 a l df)(e7:Lk l 7 (pT rp))
  (hN: ∀a',Sl 98 a' ((6,pT rp)::dropL [6,70] l) df->N a' w):Rg N Q a w (r_ck 23):=
 reg (l0:=[(7,pT rp)]) [6] [6,70] [] hs ⟨e7,trivial⟩ hN (by kernel_rfl)
theorem ck_r24{gh rp tn tc ai g77 o77:Nat}{td:Option Addr}{n:Int}{C0:S3->World->Prop}(hs:Sl 98 a l df)(e0:Lk l 0 (pT gh))(e7:Lk l 7 (pT rp))(e15:Lk l 15 (ii (ai:Int)))(l0:Lp 24 (pF rp 2) (.slice td tn tc) w)(i1:Ix 24 (.slice td tn tc) (ii (ai:Int)) (pF g77 o77))(l2:Lp 3 (pF g77 o77) (ii n) w)(k3:Ca 21 #[pT gh,ii n] w fun e w'=> ∃q:S3,e=.returned (.slice q.d q.n q.c)/\C0 q w')
  (hN: ∀a' (q:S3) (w1:World),C0 q w1->Sl 98 a' ((79,.slice q.d q.n q.c)::(80,ii (q.n:Int))::(81,ii 0)::dropL (List.range' 71 11) l) df->N a' w1):Rg N Q a w (r_ck 24):=
 reg (l0:=[(0,pT gh),(7,pT rp),(15,ii (ai:Int))]) [79,80,81] (List.range' 71 11) [.val (.slice td tn tc),.val (pF g77 o77),.val (ii n),.ex (S3) (fun q=>.slice q.d q.n q.c) C0] hs ⟨e0,e7,e15,trivial⟩ (aI l0.run (aI (i1 w) (aI l2.run (aI k3 (fun(q:S3) (w1:World) (hc0:C0 q w1)=>(fun a'=>hN a' q w1 hc0)))))) (by kernel_rfl)
theorem ck_r25{i sn:Nat}{b82:Bool}(hs:Sl 98 a l df)(e81:Lk l 81 (ii (i:Int)))(e80:Lk l 80 (ii (sn:Int)))(h0:decide ((i:Int)<(sn:Int))=b82)
  (hN: ∀a',Sl 98 a' ((82,.bool b82)::dropL [82] l) df->N a' w):Rg N Q a w (r_ck 25):=
 reg (l0:=[(81,ii (i:Int)),(80,ii (sn:Int))]) [82] [82] [.bit b82] hs ⟨e81,e80,trivial⟩ (aI h0 hN) (by kernel_rfl)
theorem ck_r26{sd:Option Addr}{sn sc i g83 o83:Nat}{x:Int}(hs:Sl 98 a l df)(e79:Lk l 79 (.slice sd sn sc))(e81:Lk l 81 (ii (i:Int)))(i0:Ix 24 (.slice sd sn sc) (ii (i:Int)) (pF g83 o83))(l1:Lp 3 (pF g83 o83) (ii x) w)
  (hN: ∀a',Sl 98 a' ((17,ii x)::dropL [17,83,84] l) df->N a' w):Rg N Q a w (r_ck 26):=
 reg (l0:=[(79,.slice sd sn sc),(81,ii (i:Int))]) [17] [17,83,84] [.val (pF g83 o83),.val (ii x)] hs ⟨e79,e81,trivial⟩ (aI (i0 w) (aI l1.run hN)) (by kernel_rfl)
theorem ck_r27{rp tn tc ai g92 o92:Nat}{x n:Int}{td:Option Addr}{C0:World->Prop}(hs:Sl 98 a l df)(e7:Lk l 7 (pT rp))(e17:Lk l 17 (ii x))(e15:Lk l 15 (ii (ai:Int)))(l0:Lp 24 (pF rp 2) (.slice td tn tc) w)(i1:Ix 24 (.slice td tn tc) (ii (ai:Int)) (pF g92 o92))(l2:Lp 3 (pF g92 o92) (ii n) w)(k3:Cl 53 #[pT rp,ii x,ii n] w (.tuple #[]) C0)
  (hN: ∀a' (w1:World),C0 w1->Sl 98 a' (dropL (List.range' 85 10) l) df->N a' w1):Rg N Q a w (r_ck 27):=
 reg (l0:=[(7,pT rp),(17,ii x),(15,ii (ai:Int))]) [] (List.range' 85 10) [.val (.slice td tn tc),.val (pF g92 o92),.val (ii n),.ret (.tuple #[]) C0] hs ⟨e7,e17,e15,trivial⟩ (aI l0.run (aI (i1 w) (aI l2.run (aI k3 (fun(w1:World) (hc0:C0 w1)=>(fun a'=>hN a' w1 hc0)))))) (by kernel_rfl)
theorem ck_r28{i:Nat}(hs:Sl 98 a l df)(e81:Lk l 81 (ii (i:Int)))(h0: -9223372036854775808<=(i:Int)+1/\(i:Int)+1<=9223372036854775807)
  (hN: ∀a',Sl 98 a' ((81,ii ((i:Int)+1))::dropL [81,95] l) df->N a' w):Rg N Q a w (r_ck 28):=
 reg (l0:=[(81,ii (i:Int))]) [81] [81,95] [.ari] hs ⟨e81,trivial⟩ (aI h0 hN) (by kernel_rfl)
theorem ck_r29{ai:Nat}(hs:Sl 98 a l df)(e15:Lk l 15 (ii (ai:Int)))(h0: -9223372036854775808<=(ai:Int)+1/\(ai:Int)+1<=9223372036854775807)
  (hN: ∀a',Sl 98 a' ((15,ii ((ai:Int)+1))::dropL [15,96,97] l) df->N a' w):Rg N Q a w (r_ck 29):=
 reg (l0:=[(15,ii (ai:Int))]) [15] [15,96,97] [.ari] hs ⟨e15,trivial⟩ (aI h0 hN) (by kernel_rfl)
noncomputable def r_cr (n:Nat):Code:=((Tryz.f12.body.bind (findR n)).getD .skip)
noncomputable def crBody:Code:=(.seq (r_cr 0) (.seq (r_cr 1) .ret))
theorem cr_body:Tryz.f12.body=some crBody:=by kernel_rfl
theorem cr_r0(hs:Sl 16 a l df)
  (hN: ∀a',Sl 16 a' ((6,.slice none 0 0)::dropL [6] l) df->N a' w):Rg N Q a w (r_cr 0):=
 reg (l0:=[]) [6] [6] [] hs trivial hN (by kernel_rfl)
theorem cr_r1{gh ln lc bn bc:Nat}{ld bd:Option Addr}{C0:Nat->World->Prop}{C1 C3:S3->World->Prop}{C2:Value->World->Prop}(hs:Sl 16 a l df)(e0:Lk l 0 (pT gh))(e1:Lk l 1 (.slice ld ln lc))(e2:Lk l 2 (.slice bd bn bc))(k0:Ca 29 #[pT gh,.slice ld ln lc,.slice bd bn bc] w fun e w'=> ∃rp:Nat,e=.returned (pT rp)/\C0 rp w')(l1: ∀(rp:Nat) (w1:World),C0 rp w1->∃z:S3,Lp 24 (pF rp 2) (.slice z.d z.n z.c) w1/\C1 z w1)(k2: ∀(rp:Nat) (w1:World),C0 rp w1->∀(z:S3),C1 z w1->Ca 28 #[.slice z.d z.n z.c] w1 fun e w'=> ∃x:Value,e=.returned (x)/\C2 x w')(k3: ∀(rp:Nat) (w1:World),C0 rp w1->∀(z:S3),C1 z w1->∀(x:Value) (w3:World),C2 x w3->Ca 27 #[x] w3 fun e w'=> ∃q:S3,e=.returned (.slice q.d q.n q.c)/\C3 q w')
  (hN: ∀a' (rp:Nat) (w1:World) (z:S3) (x:Value) (w3:World) (q:S3) (w4:World),C0 rp w1->C1 z w1->C2 x w3->C3 q w4->Sl 16 a' ((6,.slice q.d q.n q.c)::dropL (List.range' 6 10) l) df->N a' w4):Rg N Q a w (r_cr 1):=
 reg (l0:=[(0,pT gh),(1,.slice ld ln lc),(2,.slice bd bn bc)]) [6] (List.range' 6 10) [.ex (Nat) (fun rp=>pT rp) C0,.vx (S3) (fun z=>.slice z.d z.n z.c) C1,.ex (Value) (fun x=>x) C2,.ex (S3) (fun q=>.slice q.d q.n q.c) C3] hs ⟨e0,e1,e2,trivial⟩ (aI k0 (fun(rp:Nat) (w1:World) (hc0:C0 rp w1)=>(aI (Lds.vx (l1 rp w1 hc0)) (fun(z:S3) (hc1:C1 z w1)=>(aI (k2 rp w1 hc0 z hc1) (fun(x:Value) (w3:World) (hc2:C2 x w3)=>(aI (k3 rp w1 hc0 z hc1 x w3 hc2) (fun(q:S3) (w4:World) (hc3:C3 q w4)=>(fun a'=>hN a' rp w1 z x w3 q w4 hc0 hc1 hc2 hc3))))))))) (by kernel_rfl)
noncomputable def r_cs (n:Nat):Code:=((Tryz.f18.body.bind (findR n)).getD .skip)
noncomputable def csL0:Code:=(.seq (r_cs 3) (.seq (.cond (.tmp 23) .skip (.exit 0)) (.seq (.block 1 (.seq (r_cs 4) (.seq (r_cs 5) (.cond (.tmp 37) (r_cs 6) .skip)))) (r_cs 7))))
noncomputable def csBody:Code:=(.seq (r_cs 0) (.seq (r_cs 1) (.seq (.seq (r_cs 2) (.block 0 (.loop csL0))) (.seq (r_cs 8) .ret))))
theorem cs_body:Tryz.f18.body=some csBody:=by kernel_rfl
theorem cs_r5f_t{rp bt gh:Nat}{n was:Int}{b36:Bool}{C0:World->Prop}(hs:Sl 42 a l df)(e7:Lk l 7 (pT rp))(e10:Lk l 10 (ii n))(e0:Lk l 0 (pT gh))(l0:Lp 67 (pF rp 1) (.map (some bt)) w)(l1:Lkp Tryz.prog 67 (.map (some bt)) (ii n) false (ii was) w)(h2:decide (was=0)=true)(k3:Cl 36 #[pT gh,ii n] w (.bool b36) C0)
  (hN: ∀a' (w1:World),C0 w1->Sl 42 a' ((37,.bool b36)::dropL (List.range' 26 12) l) df->N a' w1):Rg N Q a w (r_cs 5):=
 reg (l0:=[(7,pT rp),(10,ii n),(0,pT gh)]) [37] (List.range' 26 12) [.val (.map (some bt)),.val (ii was),.bit true,.ret (.bool b36) C0] hs ⟨e7,e10,e0,trivial⟩ (aI l0.run (aI l1.run (aI h2 (aI k3 (fun(w1:World) (hc0:C0 w1)=>(fun a'=>hN a' w1 hc0)))))) (by kernel_rfl)
theorem cs_r5f_f{rp bt:Nat}{n was:Int}(hs:Sl 42 a l df)(e7:Lk l 7 (pT rp))(e10:Lk l 10 (ii n))(l0:Lp 67 (pF rp 1) (.map (some bt)) w)(l1:Lkp Tryz.prog 67 (.map (some bt)) (ii n) false (ii was) w)(h2:decide (was=0)=false)
  (hN: ∀a',Sl 42 a' ((37,.bool false)::dropL (List.range' 26 12) l) df->N a' w):Rg N Q a w (r_cs 5):=
 reg (l0:=[(7,pT rp),(10,ii n)]) [37] (List.range' 26 12) [.val (.map (some bt)),.val (ii was),.bit false] hs ⟨e7,e10,trivial⟩ (aI l0.run (aI l1.run (aI h2 hN))) (by kernel_rfl)
theorem cs_r0(hs:Sl 42 a l df)
  (hN: ∀a',Sl 42 a' ((6,ii 0)::dropL [6] l) df->N a' w):Rg N Q a w (r_cs 0):=
 reg (l0:=[]) [6] [6] [] hs trivial hN (by kernel_rfl)
theorem cs_r1{gh ln lc bn bc:Nat}{ld bd:Option Addr}{C0:Nat->World->Prop}(hs:Sl 42 a l df)(e0:Lk l 0 (pT gh))(e1:Lk l 1 (.slice ld ln lc))(e2:Lk l 2 (.slice bd bn bc))(k0:Ca 29 #[pT gh,.slice ld ln lc,.slice bd bn bc] w fun e w'=> ∃rp:Nat,e=.returned (pT rp)/\C0 rp w')
  (hN: ∀a' (rp:Nat) (w1:World),C0 rp w1->Sl 42 a' ((7,pT rp)::(8,ii 0)::dropL [7,8,11,12,13,14] l) df->N a' w1):Rg N Q a w (r_cs 1):=
 reg (l0:=[(0,pT gh),(1,.slice ld ln lc),(2,.slice bd bn bc)]) [7,8] [7,8,11,12,13,14] [.ex (Nat) (fun rp=>pT rp) C0] hs ⟨e0,e1,e2,trivial⟩ (aI k0 (fun(rp:Nat) (w1:World) (hc0:C0 rp w1)=>(fun a'=>hN a' rp w1 hc0))) (by kernel_rfl)
theorem cs_r2{rp bt:Nat}{C0:Value->World->Prop}{C1:S3->World->Prop}(hs:Sl 42 a l df)(e7:Lk l 7 (pT rp))(l0:Lp 67 (pF rp 1) (.map (some bt)) w)(k1:Ca 35 #[.map (some bt)] w fun e w'=> ∃x:Value,e=.returned (x)/\C0 x w')(k2: ∀(x:Value) (w1:World),C0 x w1->Ca 27 #[x] w1 fun e w'=> ∃q:S3,e=.returned (.slice q.d q.n q.c)/\C1 q w')
  (hN: ∀a' (x:Value) (w1:World) (q:S3) (w2:World),C0 x w1->C1 q w2->Sl 42 a' ((20,.slice q.d q.n q.c)::(21,ii (q.n:Int))::(22,ii 0)::dropL (List.range' 15 8) l) df->N a' w2):Rg N Q a w (r_cs 2):=
 reg (l0:=[(7,pT rp)]) [20,21,22] (List.range' 15 8) [.val (.map (some bt)),.ex (Value) (fun x=>x) C0,.ex (S3) (fun q=>.slice q.d q.n q.c) C1] hs ⟨e7,trivial⟩ (aI l0.run (aI k1 (fun(x:Value) (w1:World) (hc0:C0 x w1)=>(aI (k2 x w1 hc0) (fun(q:S3) (w2:World) (hc1:C1 q w2)=>(fun a'=>hN a' x w1 q w2 hc0 hc1)))))) (by kernel_rfl)
theorem cs_r3{i sn:Nat}{b23:Bool}(hs:Sl 42 a l df)(e22:Lk l 22 (ii (i:Int)))(e21:Lk l 21 (ii (sn:Int)))(h0:decide ((i:Int)<(sn:Int))=b23)
  (hN: ∀a',Sl 42 a' ((23,.bool b23)::dropL [23] l) df->N a' w):Rg N Q a w (r_cs 3):=
 reg (l0:=[(22,ii (i:Int)),(21,ii (sn:Int))]) [23] [23] [.bit b23] hs ⟨e22,e21,trivial⟩ (aI h0 hN) (by kernel_rfl)
theorem cs_r4{sd:Option Addr}{sn sc i g24 o24:Nat}{n:Int}(hs:Sl 42 a l df)(e20:Lk l 20 (.slice sd sn sc))(e22:Lk l 22 (ii (i:Int)))(i0:Ix 24 (.slice sd sn sc) (ii (i:Int)) (pF g24 o24))(l1:Lp 3 (pF g24 o24) (ii n) w)
  (hN: ∀a',Sl 42 a' ((10,ii n)::dropL [10,24,25] l) df->N a' w):Rg N Q a w (r_cs 4):=
 reg (l0:=[(20,.slice sd sn sc),(22,ii (i:Int))]) [10] [10,24,25] [.val (pF g24 o24),.val (ii n)] hs ⟨e20,e22,trivial⟩ (aI (i0 w) (aI l1.run hN)) (by kernel_rfl)
theorem cs_r6{c:Nat}(hs:Sl 42 a l df)(e8:Lk l 8 (ii (c:Int)))(h0: -9223372036854775808<=(c:Int)+1/\(c:Int)+1<=9223372036854775807)
  (hN: ∀a',Sl 42 a' ((8,ii ((c:Int)+1))::dropL [8,38,39] l) df->N a' w):Rg N Q a w (r_cs 6):=
 reg (l0:=[(8,ii (c:Int))]) [8] [8,38,39] [.ari] hs ⟨e8,trivial⟩ (aI h0 hN) (by kernel_rfl)
theorem cs_r7{i:Nat}(hs:Sl 42 a l df)(e22:Lk l 22 (ii (i:Int)))(h0: -9223372036854775808<=(i:Int)+1/\(i:Int)+1<=9223372036854775807)
  (hN: ∀a',Sl 42 a' ((22,ii ((i:Int)+1))::dropL [22,40] l) df->N a' w):Rg N Q a w (r_cs 7):=
 reg (l0:=[(22,ii (i:Int))]) [22] [22,40] [.ari] hs ⟨e22,trivial⟩ (aI h0 hN) (by kernel_rfl)
theorem cs_r8{c:Nat}(hs:Sl 42 a l df)(e8:Lk l 8 (ii (c:Int)))
  (hN: ∀a',Sl 42 a' ((6,ii (c:Int))::dropL [6,41] l) df->N a' w):Rg N Q a w (r_cs 8):=
 reg (l0:=[(8,ii (c:Int))]) [6] [6,41] [] hs ⟨e8,trivial⟩ hN (by kernel_rfl)
noncomputable def r_cw (n:Nat):Code:=((Tryz.f13.body.bind (findR n)).getD .skip)
noncomputable def cwL0:Code:=(.seq (.seq (r_cw 5) (.cond (.tmp 31) .skip (.exit 0))) (.block 1 (.seq (r_cw 6) (r_cw 7))))
noncomputable def cwBody:Code:=(.seq (r_cw 0) (.seq (r_cw 1) (.seq (.seq (r_cw 2) (.cond (.tmp 21) (.seq (r_cw 3) .ret) .skip)) (.seq (r_cw 4) (.seq (.block 0 (.loop cwL0)) (.seq (r_cw 8) (.seq (r_cw 9) .ret)))))))
theorem cw_body:Tryz.f13.body=some cwBody:=by kernel_rfl
theorem cw_r0(hs:Sl 45 a l df)
  (hN: ∀a',Sl 45 a' ((8,.slice none 0 0)::dropL [8] l) df->N a' w):Rg N Q a w (r_cw 0):=
 reg (l0:=[]) [8] [8] [] hs trivial hN (by kernel_rfl)
theorem cw_r1{gh ln lc bn bc:Nat}{ld bd:Option Addr}{C0:Nat->World->Prop}(hs:Sl 45 a l df)(e0:Lk l 0 (pT gh))(e1:Lk l 1 (.slice ld ln lc))(e2:Lk l 2 (.slice bd bn bc))(k0:Ca 29 #[pT gh,.slice ld ln lc,.slice bd bn bc] w fun e w'=> ∃rp:Nat,e=.returned (pT rp)/\C0 rp w')
  (hN: ∀a' (rp:Nat) (w1:World),C0 rp w1->Sl 45 a' ((9,pT rp)::dropL [9,11,12,13,14] l) df->N a' w1):Rg N Q a w (r_cw 1):=
 reg (l0:=[(0,pT gh),(1,.slice ld ln lc),(2,.slice bd bn bc)]) [9] [9,11,12,13,14] [.ex (Nat) (fun rp=>pT rp) C0] hs ⟨e0,e1,e2,trivial⟩ (aI k0 (fun(rp:Nat) (w1:World) (hc0:C0 rp w1)=>(fun a'=>hN a' rp w1 hc0))) (by kernel_rfl)
theorem cw_r2{rp bt:Nat}{tz bz:Int}{b21:Bool}(hs:Sl 45 a l df)(e9:Lk l 9 (pT rp))(e3:Lk l 3 (ii tz))(l0:Lp 67 (pF rp 1) (.map (some bt)) w)(l1:Lkp Tryz.prog 67 (.map (some bt)) (ii tz) false (ii bz) w)(h2:decide (bz=0)=b21)
  (hN: ∀a',Sl 45 a' ((21,.bool b21)::dropL (List.range' 15 7) l) df->N a' w):Rg N Q a w (r_cw 2):=
 reg (l0:=[(9,pT rp),(3,ii tz)]) [21] (List.range' 15 7) [.val (.map (some bt)),.val (ii bz),.bit b21] hs ⟨e9,e3,trivial⟩ (aI l0.run (aI l1.run (aI h2 hN))) (by kernel_rfl)
theorem cw_r3(hs:Sl 45 a l df)
  (hN: ∀a',Sl 45 a' ((8,.slice none 0 0)::dropL [8] l) df->N a' w):Rg N Q a w (r_cw 3):=
 reg (l0:=[]) [8] [8] [] hs trivial hN (by kernel_rfl)
theorem cw_r4{tz:Int}(hs:Sl 45 a l df)(e3:Lk l 3 (ii tz))
  (hN: ∀a',Sl 45 a' ((10,.slice (some ⟨w.heap.size,0,none⟩) 1 1)::dropL [10,22,23] l) df->N a' (w.alloc (.cells #[ii tz] 3))):Rg N Q a w (r_cw 4):=
 reg (l0:=[(3,ii tz)]) [10] [10,22,23] [.raw] hs ⟨e3,trivial⟩ hN (by kernel_rfl)
theorem cw_r5{rp bt:Nat}{tz bz:Int}{b31:Bool}(hs:Sl 45 a l df)(e9:Lk l 9 (pT rp))(e3:Lk l 3 (ii tz))(l0:Lp 67 (pF rp 1) (.map (some bt)) w)(l1:Lkp Tryz.prog 67 (.map (some bt)) (ii tz) false (ii bz) w)(h2:decide (bz≠tz)=b31)
  (hN: ∀a',Sl 45 a' ((31,.bool b31)::dropL (List.range' 24 8) l) df->N a' w):Rg N Q a w (r_cw 5):=
 reg (l0:=[(9,pT rp),(3,ii tz)]) [31] (List.range' 24 8) [.val (.map (some bt)),.val (ii bz),.bit b31] hs ⟨e9,e3,trivial⟩ (aI l0.run (aI l1.run (aI h2 hN))) (by kernel_rfl)
theorem cw_r6{rp bt:Nat}{tz bz:Int}(hs:Sl 45 a l df)(e9:Lk l 9 (pT rp))(e3:Lk l 3 (ii tz))(l0:Lp 67 (pF rp 1) (.map (some bt)) w)(l1:Lkp Tryz.prog 67 (.map (some bt)) (ii tz) false (ii bz) w)
  (hN: ∀a',Sl 45 a' ((3,ii bz)::dropL (3::List.range' 32 6) l) df->N a' w):Rg N Q a w (r_cw 6):=
 reg (l0:=[(9,pT rp),(3,ii tz)]) [3] (3::List.range' 32 6) [.val (.map (some bt)),.val (ii bz)] hs ⟨e9,e3,trivial⟩ (aI l0.run (aI l1.run hN)) (by kernel_rfl)
theorem cw_r7{od:Option Addr}{on oc:Nat}{tz:Int}{C0:World->S3->World->Prop}(hs:Sl 45 a l df)(e10:Lk l 10 (.slice od on oc))(e3:Lk l 3 (ii tz))(k0: ∀ty,∃v w',(Builtin.append_ #[24,24] ty #[.slice od on oc,.slice (some ⟨w.heap.size,0,none⟩) 1 1]).run Tryz.prog (w.alloc (.cells #[ii tz] 3))=.ok v.v w'/\C0 (w.alloc (.cells #[ii tz] 3)) v w')
  (hN: ∀a' (x41:S3) (w1:World),C0 (w.alloc (.cells #[ii tz] 3)) x41 w1->Sl 45 a' ((10,.slice x41.d x41.n x41.c)::dropL [10,38,39,40,41] l) df->N a' w1):Rg N Q a w (r_cw 7):=
 reg (l0:=[(10,.slice od on oc),(3,ii tz)]) [10] [10,38,39,40,41] [.raw,.apxw S3 S3.v C0] hs ⟨e10,e3,trivial⟩ (aI k0 (fun(x41:S3) (w1:World) (hc0:C0 (w.alloc (.cells #[ii tz] 3)) x41 w1)=>(fun a'=>hN a' x41 w1 hc0))) (by kernel_rfl)
theorem cw_r8{od:Option Addr}{on oc:Nat}{C0:World->Prop}(hs:Sl 45 a l df)(e10:Lk l 10 (.slice od on oc))(k0:Cl 30 #[.slice od on oc] w (.tuple #[]) C0)
  (hN: ∀a' (w1:World),C0 w1->Sl 45 a' (dropL [42,43] l) df->N a' w1):Rg N Q a w (r_cw 8):=
 reg (l0:=[(10,.slice od on oc)]) [] [42,43] [.ret (.tuple #[]) C0] hs ⟨e10,trivial⟩ (aI k0 (fun(w1:World) (hc0:C0 w1)=>(fun a'=>hN a' w1 hc0))) (by kernel_rfl)
theorem cw_r9{od:Option Addr}{on oc:Nat}(hs:Sl 45 a l df)(e10:Lk l 10 (.slice od on oc))
  (hN: ∀a',Sl 45 a' ((8,.slice od on oc)::dropL [8,44] l) df->N a' w):Rg N Q a w (r_cw 9):=
 reg (l0:=[(10,.slice od on oc)]) [8] [8,44] [] hs ⟨e10,trivial⟩ hN (by kernel_rfl)
end Go.Proofs.YtbjegfpfmnleeaaGreatDoor
