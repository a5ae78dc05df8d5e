/-
   Written by an AI agent.
-/
import Derived.Test.YtbjegfpfmnleeaaGreatDoorProg
import Derived.Test.YtbjegfpfmnleeaaGreatDoorQw04
import Derived.Test.YtbjegfpfmnleeaaGreatDoorQw14
import Derived.Test.YtbjegfpfmnleeaaGreatDoorQw15
namespace Go.Proofs.YtbjegfpfmnleeaaGreatDoor
open Go.RowKit Go.Sort
set_option maxRecDepth 100000
variable {a:Act} {w:World} {df:List Deferred} {N:Act->World->Prop} {Q:Exit->Act->World->Prop} {l:List (Nat×Value)}
noncomputable def r_hn (n:Nat):Code:=((Tryz.f25.body.bind (findR n)).getD .skip)
noncomputable def hnBody:Code:=(.seq (r_hn 0) (.seq (r_hn 1) .ret))
theorem hn_body:Tryz.f25.body=some hnBody:=by kernel_rfl
theorem hn_r0(hs:Sl 4 a l df)
  (hN: ∀a',Sl 4 a' ((0,.pointer none)::dropL [0] l) df->N a' w):Rg N Q a w (r_hn 0):=
 reg (l0:=[]) [0] [0] [] hs trivial hN (by kernel_rfl)
theorem hn_r1(hs:Sl 4 a l df)
  (hN: ∀a',Sl 4 a' ((0,pT ((w.alloc (.map #[] 0)).heap.size))::dropL [0,1,2,3] l) df->N a' ((w.alloc (.map #[] 0)).alloc (.cells #[.map (some w.heap.size),ii 0] 83))):Rg N Q a w (r_hn 1):=
 reg (l0:=[]) [0] [0,1,2,3] [.raw,.raw,.raw] hs trivial hN (by kernel_rfl)
noncomputable def r_hm (n:Nat):Code:=((Tryz.f92.body.bind (findR n)).getD .skip)
noncomputable def hmBody:Code:=(.seq (r_hm 0) (.seq (.seq (r_hm 1) (.cond (.tmp 10) (.seq (r_hm 2) .ret) .skip)) (.seq (r_hm 3) (.seq (r_hm 4) (.seq (r_hm 5) .ret)))))
theorem hm_body:Tryz.f92.body=some hmBody:=by kernel_rfl
theorem hm_r0(hs:Sl 32 a l df)
  (hN: ∀a',Sl 32 a' ((4,ii 0)::(5,.nilIface)::dropL [4,5] l) df->N a' w):Rg N Q a w (r_hm 0):=
 reg (l0:=[]) [4,5] [4,5] [] hs trivial hN (by kernel_rfl)
theorem hm_r1{gh n:Nat}{b10:Bool}(hs:Sl 32 a l df)(e0:Lk l 0 (pT gh))(l0:Lp 3 (pF gh 1) (ii (n:Int)) w)(h1:decide ((2147483647:Int)<=(n:Int))=b10)
  (hN: ∀a',Sl 32 a' ((10,.bool b10)::dropL [6,7,8,9,10] l) df->N a' w):Rg N Q a w (r_hm 1):=
 reg (l0:=[(0,pT gh)]) [10] [6,7,8,9,10] [.val (ii (n:Int)),.bit b10] hs ⟨e0,trivial⟩ (aI l0.run (aI h1 hN)) (by kernel_rfl)
theorem hm_r3{gh n:Nat}(hs:Sl 32 a l df)(e0:Lk l 0 (pT gh))(l0:Lp 3 (pF gh 1) (ii (n:Int)) w)(h1: -9223372036854775808<=(n:Int)+1/\(n:Int)+1<=9223372036854775807)(s2:So 3 gh 1 (ii ((n:Int)+1)) w [ii ((n:Int)+1)])
  (hN: ∀a',Sl 32 a' (dropL (List.range' 12 7) l) df->N a' (w.setCells gh 1 [ii ((n:Int)+1)])):Rg N Q a w (r_hm 3):=
 reg (l0:=[(0,pT gh)]) [] (List.range' 12 7) [.val (ii (n:Int)),.ari,.sto] hs ⟨e0,trivial⟩ (aI l0.run (aI h1 (aI s2 hN))) (by kernel_rfl)
theorem hm_r4{gh b n:Nat}{x:Value}{wu9:World}(hs:Sl 32 a l df)(e0:Lk l 0 (pT gh))(e1:Lk l 1 (x))(l0:Lp 79 (pT gh) (.map (some b)) w)(l1:Lp 3 (pF gh 1) (ii (n:Int)) w)(m2:(Instr.mapUpdate 79 (.map (some b)) (ii (n:Int)) (x)).run Tryz.prog (w.drewN 1)=.ok () wu9)
  (hN: ∀a',Sl 32 a' (dropL (List.range' 19 9) l) df->N a' wu9):Rg N Q a w (r_hm 4):=
 regT (l0:=[(0,pT gh),(1,x)]) 9 [] (List.range' 19 9) [.val (.map (some b)),.val (ii (n:Int))] [.wld wu9] hs ⟨e0,e1,trivial⟩ (aI l0 (aI l1 (aI m2 hN))) (by kernel_rfl)
theorem hm_r5{gh n:Nat}(hs:Sl 32 a l df)(e0:Lk l 0 (pT gh))(l0:Lp 3 (pF gh 1) (ii (n:Int)) w)
  (hN: ∀a',Sl 32 a' ((4,ii (n:Int))::(5,.nilIface)::dropL [4,5,28,29,30,31] l) df->N a' w):Rg N Q a w (r_hm 5):=
 reg (l0:=[(0,pT gh)]) [4,5] [4,5,28,29,30,31] [.val (ii (n:Int))] hs ⟨e0,trivial⟩ (aI l0.run hN) (by kernel_rfl)
noncomputable def r_ht (n:Nat):Code:=((Tryz.f19.body.bind (findR n)).getD .skip)
noncomputable def htBody:Code:=(.seq (r_ht 0) (.seq (r_ht 1) .ret))
theorem ht_body:Tryz.f19.body=some htBody:=by kernel_rfl
theorem ht_r0(hs:Sl 9 a l df)
  (hN: ∀a',Sl 9 a' ((2,.slice none 0 0)::dropL [2] l) df->N a' w):Rg N Q a w (r_ht 0):=
 reg (l0:=[]) [2] [2] [] hs trivial hN (by kernel_rfl)
theorem ht_r1{gh:Nat}{v6:Value}{C0 C1:Value->World->Prop}(hs:Sl 9 a l df)(e0:Lk l 0 (pT gh))(l0:Lp 79 (pT gh) (v6) w)(k1:Ca 37 #[v6] w fun e w'=> ∃x7,e=.returned x7/\C0 x7 w')(k2: ∀(x7:Value) (w1:World),C0 x7 w1->Ca 27 #[x7] w1 fun e w'=> ∃x8,e=.returned x8/\C1 x8 w')
  (hN: ∀a' (x7:Value) (w1:World) (x8:Value) (w2:World),C0 x7 w1->C1 x8 w2->Sl 9 a' ((2,x8)::dropL (List.range' 2 7) l) df->N a' w2):Rg N Q a w (r_ht 1):=
 reg (l0:=[(0,pT gh)]) [2] (List.range' 2 7) [.val (v6),.con C0,.con C1] hs ⟨e0,trivial⟩ (aI l0.run (aI k1 (fun(x7:Value) (w1:World) (hc0:C0 x7 w1)=>(aI (k2 x7 w1 hc0) (fun(x8:Value) (w2:World) (hc1:C1 x8 w2)=>(fun a'=>hN a' x7 w1 x8 w2 hc0 hc1)))))) (by kernel_rfl)
noncomputable def r_hf (n:Nat):Code:=((Tryz.f36.body.bind (findR n)).getD .skip)
noncomputable def hfBody:Code:=(.seq (r_hf 0) (.seq (r_hf 1) (.seq (r_hf 2) (.seq (r_hf 3) .ret))))
theorem hf_body:Tryz.f36.body=some hfBody:=by kernel_rfl
theorem hf_r0(hs:Sl 22 a l df)
  (hN: ∀a',Sl 22 a' ((4,.bool false)::dropL [4] l) df->N a' w):Rg N Q a w (r_hf 0):=
 reg (l0:=[]) [4] [4] [] hs trivial hN (by kernel_rfl)
theorem hf_r1{gh b:Nat}{n:Int}{v:Value}{b13:Bool}(hs:Sl 22 a l df)(e0:Lk l 0 (pT gh))(e1:Lk l 1 (ii n))(l0:Lp 79 (pT gh) (.map (some b)) w)(l1:Lkp Tryz.prog 79 (.map (some b)) (ii n) true (.tuple #[v,.bool b13]) w)
  (hN: ∀a',Sl 22 a' ((6,.bool b13)::dropL (List.range' 5 11) l) df->N a' w):Rg N Q a w (r_hf 1):=
 reg (l0:=[(0,pT gh),(1,ii n)]) [6] (List.range' 5 11) [.val (.map (some b)),.val (.tuple #[v,.bool b13])] hs ⟨e0,e1,trivial⟩ (aI l0.run (aI l1.run hN)) (by kernel_rfl)
theorem hf_r2{gh b:Nat}{n:Int}{wd5:World}(hs:Sl 22 a l df)(e0:Lk l 0 (pT gh))(e1:Lk l 1 (ii n))(l0:Lp 79 (pT gh) (.map (some b)) w)(m1: ∀ty,∃v,(Builtin.delete_ #[79,3] ty #[.map (some b),ii n]).run Tryz.prog w=.ok v wd5)
  (hN: ∀a',Sl 22 a' (dropL [16,17,18,19,20] l) df->N a' wd5):Rg N Q a w (r_hf 2):=
 reg (l0:=[(0,pT gh),(1,ii n)]) [] [16,17,18,19,20] [.val (.map (some b)),.wld wd5] hs ⟨e0,e1,trivial⟩ (aI l0.run (aI m1 (fun(_:Value)=>hN))) (by kernel_rfl)
theorem hf_r3{b6:Bool}(hs:Sl 22 a l df)(e6:Lk l 6 (.bool b6))
  (hN: ∀a',Sl 22 a' ((4,.bool b6)::dropL [4,21] l) df->N a' w):Rg N Q a w (r_hf 3):=
 reg (l0:=[(6,.bool b6)]) [4] [4,21] [] hs ⟨e6,trivial⟩ hN (by kernel_rfl)
noncomputable def r_hl (n:Nat):Code:=((Tryz.f88.body.bind (findR n)).getD .skip)
noncomputable def hlBody:Code:=(.seq (r_hl 0) (.seq (r_hl 1) (.seq (.seq (r_hl 2) (.cond (.tmp 17) (.seq (r_hl 3) .ret) .skip)) (.seq (r_hl 4) (.seq (r_hl 5) .ret)))))
theorem hl_body:Tryz.f88.body=some hlBody:=by kernel_rfl
theorem hl_r0{d:Dt}{m:Dm}(hs:Sl 24 a l df)(e2:Lk l 2 (.agg (d.cs m)))
  (hN: ∀a',Sl 24 a' ((5,pT w.heap.size)::(6,pT ((w.alloc (.cells (d.cs m) 53)).heap.size))::(7,.nilIface)::dropL [5,6,7] l) df->N a' ((w.alloc (.cells (d.cs m) 53)).alloc (.cells zA 53))):Rg N Q a w (r_hl 0):=
 reg (l0:=[(2,.agg (d.cs m))]) [5,6,7] [5,6,7] [.raw,.raw] hs ⟨e2,trivial⟩ hN (by kernel_rfl)
theorem hl_r1{gh n:Nat}{x z:Value}{C0:World->Prop}(hs:Sl 24 a l df)(e0:Lk l 0 (pT gh))(e1:Lk l 1 (x))(k0:Cl 92 #[pT gh,x] w (.tuple #[ii (n:Int),z]) C0)
  (hN: ∀a' (w1:World),C0 w1->Sl 24 a' ((8,ii (n:Int))::(9,z)::dropL (List.range' 8 8) l) df->N a' w1):Rg N Q a w (r_hl 1):=
 reg (l0:=[(0,pT gh),(1,x)]) [8,9] (List.range' 8 8) [.ret (.tuple #[ii (n:Int),z]) C0] hs ⟨e0,e1,trivial⟩ (aI k0 (fun(w1:World) (hc0:C0 w1)=>(fun a'=>hN a' w1 hc0))) (by kernel_rfl)
theorem hl_r4{n g5:Nat}(hs:Sl 24 a l df)(e8:Lk l 8 (ii (n:Int)))(e5:Lk l 5 (pT g5))(s0:So 3 g5 (5+0) (ii (n:Int)) w [ii (n:Int)])
  (hN: ∀a',Sl 24 a' (dropL [20,21,22] l) df->N a' (w.setCells g5 (5+0) [ii (n:Int)])):Rg N Q a w (r_hl 4):=
 reg (l0:=[(8,ii (n:Int)),(5,pT g5)]) [] [20,21,22] [.sto] hs ⟨e8,e5,trivial⟩ (aI s0 hN) (by kernel_rfl)
theorem hl_r5{g5 g6:Nat}{d:Dt}{m:Dm}(hs:Sl 24 a l df)(e5:Lk l 5 (pT g5))(e6:Lk l 6 (pT g6))(l0:Lp 53 (pT g5) (.agg (d.cs m)) w)(s1:So 53 g6 0 (.agg (d.cs m)) w (d.cs m).toList)
  (hN: ∀a',Sl 24 a' ((7,.nilIface)::dropL [7,23] l) df->N a' (w.setCells g6 0 (d.cs m).toList)):Rg N Q a w (r_hl 5):=
 reg (l0:=[(5,pT g5),(6,pT g6)]) [7] [7,23] [.val (.agg (d.cs m)),.sto] hs ⟨e5,e6,trivial⟩ (aI l0.run (aI s1 hN)) (by kernel_rfl)
theorem hl_r2n(hs:Sl 24 a l df)(e9:Lk l 9 (.nilIface))
  (hN: ∀a',Sl 24 a' ((17,.bool false)::dropL [16,17] l) df->N a' w):Rg N Q a w (r_hl 2):=
 reg (l0:=[(9,.nilIface)]) [17] [16,17] [.raw] hs ⟨e9,trivial⟩ hN (by kernel_rfl)
noncomputable def r_htw (n:Nat):Code:=((Tryz.f68.body.bind (findR n)).getD .skip)
noncomputable def htwBody:Code:=(.seq (r_htw 0) (.seq (r_htw 1) (.seq (r_htw 2) (.seq (r_htw 3) .ret))))
theorem htw_body:Tryz.f68.body=some htwBody:=by kernel_rfl
theorem htw_r0{d:Dt}{m:Dm}(hs:Sl 14 a l df)(e0:Lk l 0 (.agg (d.cs m)))
  (hN: ∀a',Sl 14 a' ((1,pT w.heap.size)::(2,pT ((w.alloc (.cells (d.cs m) 53)).heap.size))::dropL [1,2] l) df->N a' ((w.alloc (.cells (d.cs m) 53)).alloc (.cells zA 53))):Rg N Q a w (r_htw 0):=
 reg (l0:=[(0,.agg (d.cs m))]) [1,2] [1,2] [.raw,.raw] hs ⟨e0,trivial⟩ hN (by kernel_rfl)
theorem htw_r1{g1 pn pc:Nat}{pd:Option Addr}{C0:S3->World->Prop}(hs:Sl 14 a l df)(e1:Lk l 1 (pT g1))(l0:Lp 24 (pF g1 (5+4)) (.slice pd pn pc) w)(k1:Ca 39 #[.slice pd pn pc] w fun e w'=> ∃q:S3,e=.returned (.slice q.d q.n q.c)/\C0 q w')(s2: ∀(q:S3) (w1:World),C0 q w1->So 24 g1 (5+4) (.slice q.d q.n q.c) w1 [.slice q.d q.n q.c])
  (hN: ∀a' (q:S3) (w1:World),C0 q w1->Sl 14 a' (dropL [3,4,5,6,7,8] l) df->N a' (w1.setCells g1 (5+4) [.slice q.d q.n q.c])):Rg N Q a w (r_htw 1):=
 reg (l0:=[(1,pT g1)]) [] [3,4,5,6,7,8] [.val (.slice pd pn pc),.ex (S3) (fun q=>.slice q.d q.n q.c) C0,.sto] hs ⟨e1,trivial⟩ (aI l0.run (aI k1 (fun(q:S3) (w1:World) (hc0:C0 q w1)=>(aI (s2 q w1 hc0) (fun a'=>hN a' q w1 hc0))))) (by kernel_rfl)
theorem htw_r2{g1 n ic:Nat}{id:Option Addr}{C0:S3->World->Prop}(hs:Sl 14 a l df)(e1:Lk l 1 (pT g1))(l0:Lp 23 (pF g1 10) (.slice id n ic) w)(k1:Ca 90 #[.slice id n ic] w fun e w'=> ∃q:S3,e=.returned (.slice q.d q.n q.c)/\C0 q w')(s2: ∀(q:S3) (w1:World),C0 q w1->So 23 g1 10 (.slice q.d q.n q.c) w1 [.slice q.d q.n q.c])
  (hN: ∀a' (q:S3) (w1:World),C0 q w1->Sl 14 a' (dropL [9,10,11,12] l) df->N a' (w1.setCells g1 10 [.slice q.d q.n q.c])):Rg N Q a w (r_htw 2):=
 reg (l0:=[(1,pT g1)]) [] [9,10,11,12] [.val (.slice id n ic),.ex (S3) (fun q=>.slice q.d q.n q.c) C0,.sto] hs ⟨e1,trivial⟩ (aI l0.run (aI k1 (fun(q:S3) (w1:World) (hc0:C0 q w1)=>(aI (s2 q w1 hc0) (fun a'=>hN a' q w1 hc0))))) (by kernel_rfl)
theorem htw_r3{g1 g2:Nat}{d:Dt}{m:Dm}(hs:Sl 14 a l df)(e1:Lk l 1 (pT g1))(e2:Lk l 2 (pT g2))(l0:Lp 53 (pT g1) (.agg (d.cs m)) w)(s1:So 53 g2 0 (.agg (d.cs m)) w (d.cs m).toList)
  (hN: ∀a',Sl 14 a' (dropL [13] l) df->N a' (w.setCells g2 0 (d.cs m).toList)):Rg N Q a w (r_htw 3):=
 reg (l0:=[(1,pT g1),(2,pT g2)]) [] [13] [.val (.agg (d.cs m)),.sto] hs ⟨e1,e2,trivial⟩ (aI l0.run (aI s1 hN)) (by kernel_rfl)
noncomputable def r_hts (n:Nat):Code:=((Tryz.f90.body.bind (findR n)).getD .skip)
noncomputable def htsL0:Code:=(.seq (r_hts 3) (.seq (.cond (.tmp 9) .skip (.exit 0)) (.seq (.block 1 (.seq (r_hts 4) (r_hts 5))) (r_hts 6))))
noncomputable def htsBody:Code:=(.seq (r_hts 0) (.seq (r_hts 1) (.seq (.seq (r_hts 2) (.block 0 (.loop htsL0))) (.seq (r_hts 7) .ret))))
theorem hts_body:Tryz.f90.body=some htsBody:=by kernel_rfl
theorem hts_r0(hs:Sl 19 a l df)
  (hN: ∀a',Sl 19 a' ((2,.slice none 0 0)::dropL [2] l) df->N a' w):Rg N Q a w (r_hts 0):=
 reg (l0:=[]) [2] [2] [] hs trivial hN (by kernel_rfl)
theorem hts_r1(hs:Sl 19 a l df)
  (hN: ∀a',Sl 19 a' ((3,.slice none 0 0)::dropL [3] l) df->N a' w):Rg N Q a w (r_hts 1):=
 reg (l0:=[]) [3] [3] [] hs trivial hN (by kernel_rfl)
theorem hts_r2{sd:Option Addr}{sn sc:Nat}(hs:Sl 19 a l df)(e0:Lk l 0 (.slice sd sn sc))
  (hN: ∀a',Sl 19 a' ((6,.slice sd sn sc)::(7,ii (sn:Int))::(8,ii 0)::dropL [6,7,8] l) df->N a' w):Rg N Q a w (r_hts 2):=
 reg (l0:=[(0,.slice sd sn sc)]) [6,7,8] [6,7,8] [] hs ⟨e0,trivial⟩ hN (by kernel_rfl)
theorem hts_r3{i sn:Nat}{b9:Bool}(hs:Sl 19 a l df)(e8:Lk l 8 (ii (i:Int)))(e7:Lk l 7 (ii (sn:Int)))(h0:decide ((i:Int)<(sn:Int))=b9)
  (hN: ∀a',Sl 19 a' ((9,.bool b9)::dropL [9] l) df->N a' w):Rg N Q a w (r_hts 3):=
 reg (l0:=[(8,ii (i:Int)),(7,ii (sn:Int))]) [9] [9] [.bit b9] hs ⟨e8,e7,trivial⟩ (aI h0 hN) (by kernel_rfl)
theorem hts_r4{sd:Option Addr}{sn sc i g10 o10:Nat}{d:Dt}{m:Dm}(hs:Sl 19 a l df)(e6:Lk l 6 (.slice sd sn sc))(e8:Lk l 8 (ii (i:Int)))(i0:Ix 23 (.slice sd sn sc) (ii (i:Int)) (pF g10 o10))(l1:Lp 53 (pF g10 o10) (.agg (d.cs m)) w)(s2:So 53 w.heap.size 0 (.agg (d.cs m)) (w.alloc (.cells zA 53)) (d.cs m).toList)
  (hN: ∀a',Sl 19 a' ((5,pT w.heap.size)::dropL [5,10,11] l) df->N a' ((w.alloc (.cells zA 53)).setCells w.heap.size 0 (d.cs m).toList)):Rg N Q a w (r_hts 4):=
 reg (l0:=[(6,.slice sd sn sc),(8,ii (i:Int))]) [5] [5,10,11] [.val (pF g10 o10),.val (.agg (d.cs m)),.raw,.sto] hs ⟨e6,e8,trivial⟩ (aI (i0 w) (aI l1.run (aI s2 hN))) (by kernel_rfl)
theorem hts_r5{od:Option Addr}{on oc g5:Nat}{d:Dt}{m:Dm}{C0:World->Dm->World->Prop}{C1:World->S3->World->Prop}(hs:Sl 19 a l df)(e3:Lk l 3 (.slice od on oc))(e5:Lk l 5 (pT g5))(l0:Lp 53 (pT g5) (.agg (d.cs m)) w)(k1:Ca 68 #[.agg (d.cs m)] w fun e w'=> ∃q:Dm,e=.returned (.agg (d.cs q))/\C0 w q w')(k2: ∀(q:Dm) (w1:World),C0 w q w1->∀ty,∃v w',(Builtin.append_ #[23,23] ty #[.slice od on oc,.slice (some ⟨w1.heap.size,0,none⟩) 1 1]).run Tryz.prog (w1.alloc (.cells #[ii d.h.kind,.string d.h.type,ii d.h.n,.int .u64 d.h.f,.string d.h.s,ii d.h.obj,ii d.h.frm,ii d.h.len,ii d.h.cap,.slice q.pa d.h.path.length q.pc,.slice q.ia d.k.len q.ic] 53))=.ok v.v w'/\C1 (w1.alloc (.cells #[ii d.h.kind,.string d.h.type,ii d.h.n,.int .u64 d.h.f,.string d.h.s,ii d.h.obj,ii d.h.frm,ii d.h.len,ii d.h.cap,.slice q.pa d.h.path.length q.pc,.slice q.ia d.k.len q.ic] 53)) v w')
  (hN: ∀a' (q:Dm) (w1:World) (x16:S3) (w2:World),C0 w q w1->C1 (w1.alloc (.cells #[ii d.h.kind,.string d.h.type,ii d.h.n,.int .u64 d.h.f,.string d.h.s,ii d.h.obj,ii d.h.frm,ii d.h.len,ii d.h.cap,.slice q.pa d.h.path.length q.pc,.slice q.ia d.k.len q.ic] 53)) x16 w2->Sl 19 a' ((3,.slice x16.d x16.n x16.c)::dropL [3,12,13,14,15,16] l) df->N a' w2):Rg N Q a w (r_hts 5):=
 reg (l0:=[(3,.slice od on oc),(5,pT g5)]) [3] [3,12,13,14,15,16] [.val (.agg (d.cs m)),.exw (Dm) (fun q=>.agg (d.cs q)) C0,.raw,.apxw S3 S3.v C1] hs ⟨e3,e5,trivial⟩ (aI l0.run (aI k1 (fun(q:Dm) (w1:World) (hc0:C0 w q w1)=>(aI (k2 q w1 hc0) (fun(x16:S3) (w2:World) (hc1:C1 (w1.alloc (.cells #[ii d.h.kind,.string d.h.type,ii d.h.n,.int .u64 d.h.f,.string d.h.s,ii d.h.obj,ii d.h.frm,ii d.h.len,ii d.h.cap,.slice q.pa d.h.path.length q.pc,.slice q.ia d.k.len q.ic] 53)) x16 w2)=>(fun a'=>hN a' q w1 x16 w2 hc0 hc1)))))) (by kernel_rfl)
theorem hts_r6{i:Nat}(hs:Sl 19 a l df)(e8:Lk l 8 (ii (i:Int)))(h0: -9223372036854775808<=(i:Int)+1/\(i:Int)+1<=9223372036854775807)
  (hN: ∀a',Sl 19 a' ((8,ii ((i:Int)+1))::dropL [8,17] l) df->N a' w):Rg N Q a w (r_hts 6):=
 reg (l0:=[(8,ii (i:Int))]) [8] [8,17] [.ari] hs ⟨e8,trivial⟩ (aI h0 hN) (by kernel_rfl)
theorem hts_r7{od:Option Addr}{on oc:Nat}(hs:Sl 19 a l df)(e3:Lk l 3 (.slice od on oc))
  (hN: ∀a',Sl 19 a' ((2,.slice od on oc)::dropL [2,18] l) df->N a' w):Rg N Q a w (r_hts 7):=
 reg (l0:=[(3,.slice od on oc)]) [2] [2,18] [] hs ⟨e3,trivial⟩ hN (by kernel_rfl)
noncomputable def r_hr (n:Nat):Code:=((Tryz.f38.body.bind (findR n)).getD .skip)
noncomputable def hrL0:Code:=(.seq (r_hr 2) (.seq (.cond (.tmp 10) .skip (.exit 0)) (.seq (.block 1 (.seq (r_hr 3) (.seq (.seq (r_hr 4) (.cond (.tmp 16) (r_hr 5) .skip)) (r_hr 6)))) (r_hr 7))))
noncomputable def hrBody:Code:=(.seq (r_hr 0) (.seq (.seq (r_hr 1) (.block 0 (.loop hrL0))) (.seq (r_hr 8) .ret)))
theorem hr_body:Tryz.f38.body=some hrBody:=by kernel_rfl
theorem hr_r0(hs:Sl 29 a l df)
  (hN: ∀a',Sl 29 a' ((4,.slice none 0 0)::dropL [4] l) df->N a' w):Rg N Q a w (r_hr 0):=
 reg (l0:=[]) [4] [4] [] hs trivial hN (by kernel_rfl)
theorem hr_r1{sd:Option Addr}{sn sc:Nat}(hs:Sl 29 a l df)(e1:Lk l 1 (.slice sd sn sc))
  (hN: ∀a',Sl 29 a' ((7,.slice sd sn sc)::(8,ii (sn:Int))::(9,ii 0)::dropL [7,8,9] l) df->N a' w):Rg N Q a w (r_hr 1):=
 reg (l0:=[(1,.slice sd sn sc)]) [7,8,9] [7,8,9] [] hs ⟨e1,trivial⟩ hN (by kernel_rfl)
theorem hr_r2{i sn:Nat}{b10:Bool}(hs:Sl 29 a l df)(e9:Lk l 9 (ii (i:Int)))(e8:Lk l 8 (ii (sn:Int)))(h0:decide ((i:Int)<(sn:Int))=b10)
  (hN: ∀a',Sl 29 a' ((10,.bool b10)::dropL [10] l) df->N a' w):Rg N Q a w (r_hr 2):=
 reg (l0:=[(9,ii (i:Int)),(8,ii (sn:Int))]) [10] [10] [.bit b10] hs ⟨e9,e8,trivial⟩ (aI h0 hN) (by kernel_rfl)
theorem hr_r3{sd:Option Addr}{sn sc i g11 o11:Nat}{d:Dt}{m:Dm}(hs:Sl 29 a l df)(e7:Lk l 7 (.slice sd sn sc))(e9:Lk l 9 (ii (i:Int)))(i0:Ix 23 (.slice sd sn sc) (ii (i:Int)) (pF g11 o11))(l1:Lp 53 (pF g11 o11) (.agg (d.cs m)) w)(s2:So 53 w.heap.size 0 (.agg (d.cs m)) (w.alloc (.cells zA 53)) (d.cs m).toList)
  (hN: ∀a',Sl 29 a' ((6,pT w.heap.size)::dropL [6,11,12] l) df->N a' ((w.alloc (.cells zA 53)).setCells w.heap.size 0 (d.cs m).toList)):Rg N Q a w (r_hr 3):=
 reg (l0:=[(7,.slice sd sn sc),(9,ii (i:Int))]) [6] [6,11,12] [.val (pF g11 o11),.val (.agg (d.cs m)),.raw,.sto] hs ⟨e7,e9,trivial⟩ (aI (i0 w) (aI l1.run (aI s2 hN))) (by kernel_rfl)
theorem hr_r4{g6:Nat}{o:Int}{b16:Bool}(hs:Sl 29 a l df)(e6:Lk l 6 (pT g6))(l0:Lp 3 (pF g6 (5+0)) (ii o) w)(h1:decide (o≠0)=b16)
  (hN: ∀a',Sl 29 a' ((16,.bool b16)::dropL [13,14,15,16] l) df->N a' w):Rg N Q a w (r_hr 4):=
 reg (l0:=[(6,pT g6)]) [16] [13,14,15,16] [.val (ii o),.bit b16] hs ⟨e6,trivial⟩ (aI l0.run (aI h1 hN)) (by kernel_rfl)
theorem hr_r5{od:Option Addr}{on oc g6:Nat}{o:Int}{C0:World->S3->World->Prop}(hs:Sl 29 a l df)(e0:Lk l 0 (.slice od on oc))(e6:Lk l 6 (pT g6))(l0:Lp 3 (pF g6 (5+0)) (ii o) w)(k1: ∀ty,∃v w',(Builtin.append_ #[24,24] ty #[.slice od on oc,.slice (some ⟨w.heap.size,0,none⟩) 1 1]).run Tryz.prog (w.alloc (.cells #[ii o] 3))=.ok v.v w'/\C0 (w.alloc (.cells #[ii o] 3)) v w')
  (hN: ∀a' (x22:S3) (w1:World),C0 (w.alloc (.cells #[ii o] 3)) x22 w1->Sl 29 a' ((0,.slice x22.d x22.n x22.c)::dropL (0::List.range' 17 6) l) df->N a' w1):Rg N Q a w (r_hr 5):=
 reg (l0:=[(0,.slice od on oc),(6,pT g6)]) [0] (0::List.range' 17 6) [.val (ii o),.raw,.apxw S3 S3.v C0] hs ⟨e0,e6,trivial⟩ (aI l0.run (aI k1 (fun(x22:S3) (w1:World) (hc0:C0 (w.alloc (.cells #[ii o] 3)) x22 w1)=>(fun a'=>hN a' x22 w1 hc0)))) (by kernel_rfl)
theorem hr_r6{od kd:Option Addr}{on oc g6 kn kc:Nat}{C0:S3->World->Prop}(hs:Sl 29 a l df)(e0:Lk l 0 (.slice od on oc))(e6:Lk l 6 (pT g6))(l0:Lp 23 (pF g6 10) (.slice kd kn kc) w)(k1:Ca 38 #[.slice od on oc,.slice kd kn kc] w fun e w'=> ∃q:S3,e=.returned (.slice q.d q.n q.c)/\C0 q w')
  (hN: ∀a' (q:S3) (w1:World),C0 q w1->Sl 29 a' ((0,.slice q.d q.n q.c)::dropL [0,23,24,25,26] l) df->N a' w1):Rg N Q a w (r_hr 6):=
 reg (l0:=[(0,.slice od on oc),(6,pT g6)]) [0] [0,23,24,25,26] [.val (.slice kd kn kc),.ex (S3) (fun q=>.slice q.d q.n q.c) C0] hs ⟨e0,e6,trivial⟩ (aI l0.run (aI k1 (fun(q:S3) (w1:World) (hc0:C0 q w1)=>(fun a'=>hN a' q w1 hc0)))) (by kernel_rfl)
theorem hr_r7{i:Nat}(hs:Sl 29 a l df)(e9:Lk l 9 (ii (i:Int)))(h0: -9223372036854775808<=(i:Int)+1/\(i:Int)+1<=9223372036854775807)
  (hN: ∀a',Sl 29 a' ((9,ii ((i:Int)+1))::dropL [9,27] l) df->N a' w):Rg N Q a w (r_hr 7):=
 reg (l0:=[(9,ii (i:Int))]) [9] [9,27] [.ari] hs ⟨e9,trivial⟩ (aI h0 hN) (by kernel_rfl)
theorem hr_r8{od:Option Addr}{on oc:Nat}(hs:Sl 29 a l df)(e0:Lk l 0 (.slice od on oc))
  (hN: ∀a',Sl 29 a' ((4,.slice od on oc)::dropL [4,28] l) df->N a' w):Rg N Q a w (r_hr 8):=
 reg (l0:=[(0,.slice od on oc)]) [4] [4,28] [] hs ⟨e0,trivial⟩ hN (by kernel_rfl)
end Go.Proofs.YtbjegfpfmnleeaaGreatDoor

namespace Go.Proofs.YtbjegfpfmnleeaaGreatDoor
open Go.RowKit Go.Sort
set_option maxRecDepth 100000
variable {a:Act} {w:World} {df:List Deferred} {N:Act->World->Prop} {Q:Exit->Act->World->Prop} {l:List (Nat×Value)}
noncomputable def r_hz (n:Nat):Code:=((Tryz.f74.body.bind (findR n)).getD .skip)
noncomputable def hzL0:Code:=(.seq (r_hz 3) (.seq (.cond (.tmp 10) .skip (.exit 0)) (.seq (.block 1 (.seq (r_hz 4) (r_hz 5))) (r_hz 6))))
noncomputable def hzBody:Code:=(.seq (r_hz 0) (.seq (r_hz 1) (.seq (.seq (r_hz 2) (.block 0 (.loop hzL0))) (.seq (r_hz 7) .ret))))
theorem hz_body:Tryz.f74.body=some hzBody:=by kernel_rfl
theorem hz_r0{d:Dt}{m:Dm}(hs:Sl 19 a l df)(e0:Lk l 0 (.agg (d.cs m)))
  (hN: ∀a',Sl 19 a' ((1,pT w.heap.size)::(2,ii 0)::dropL [1,2] l) df->N a' (w.alloc (.cells (d.cs m) 53))):Rg N Q a w (r_hz 0):=
 reg (l0:=[(0,.agg (d.cs m))]) [1,2] [1,2] [.raw] hs ⟨e0,trivial⟩ hN (by kernel_rfl)
theorem hz_r1(hs:Sl 19 a l df)
  (hN: ∀a',Sl 19 a' ((3,ii 1)::dropL [3] l) df->N a' w):Rg N Q a w (r_hz 1):=
 reg (l0:=[]) [3] [3] [] hs trivial hN (by kernel_rfl)
theorem hz_r2{g1 kn kc:Nat}{kd:Option Addr}(hs:Sl 19 a l df)(e1:Lk l 1 (pT g1))(l0:Lp 23 (pF g1 10) (.slice kd kn kc) w)
  (hN: ∀a',Sl 19 a' ((7,.slice kd kn kc)::(8,ii (kn:Int))::(9,ii 0)::dropL [6,7,8,9] l) df->N a' w):Rg N Q a w (r_hz 2):=
 reg (l0:=[(1,pT g1)]) [7,8,9] [6,7,8,9] [.val (.slice kd kn kc)] hs ⟨e1,trivial⟩ (aI l0.run hN) (by kernel_rfl)
theorem hz_r3{i kn:Nat}{b10:Bool}(hs:Sl 19 a l df)(e9:Lk l 9 (ii (i:Int)))(e8:Lk l 8 (ii (kn:Int)))(h0:decide ((i:Int)<(kn:Int))=b10)
  (hN: ∀a',Sl 19 a' ((10,.bool b10)::dropL [10] l) df->N a' w):Rg N Q a w (r_hz 3):=
 reg (l0:=[(9,ii (i:Int)),(8,ii (kn:Int))]) [10] [10] [.bit b10] hs ⟨e9,e8,trivial⟩ (aI h0 hN) (by kernel_rfl)
theorem hz_r4{kd:Option Addr}{kn kc i g11 o11:Nat}{x:Dt}{mx:Dm}(hs:Sl 19 a l df)(e7:Lk l 7 (.slice kd kn kc))(e9:Lk l 9 (ii (i:Int)))(i0:Ix 23 (.slice kd kn kc) (ii (i:Int)) (pF g11 o11))(l1:Lp 53 (pF g11 o11) (.agg (x.cs mx)) w)(s2:So 53 w.heap.size 0 (.agg (x.cs mx)) (w.alloc (.cells zA 53)) (x.cs mx).toList)
  (hN: ∀a',Sl 19 a' ((5,pT w.heap.size)::dropL [5,11,12] l) df->N a' ((w.alloc (.cells zA 53)).setCells w.heap.size 0 (x.cs mx).toList)):Rg N Q a w (r_hz 4):=
 reg (l0:=[(7,.slice kd kn kc),(9,ii (i:Int))]) [5] [5,11,12] [.val (pF g11 o11),.val (.agg (x.cs mx)),.raw,.sto] hs ⟨e7,e9,trivial⟩ (aI (i0 w) (aI l1.run (aI s2 hN))) (by kernel_rfl)
theorem hz_r5{n3 n15:Int}{g5:Nat}{x:Dt}{mx:Dm}{C0:World->Prop}(hs:Sl 19 a l df)(e3:Lk l 3 (ii n3))(e5:Lk l 5 (pT g5))(l0:Lp 53 (pT g5) (.agg (x.cs mx)) w)(k1:Cl 74 #[.agg (x.cs mx)] w (ii n15) C0)(h2: -9223372036854775808<=n3+n15/\n3+n15<=9223372036854775807)
  (hN: ∀a' (w1:World),C0 w1->Sl 19 a' ((3,ii (n3+n15))::dropL [3,13,14,15,16] l) df->N a' w1):Rg N Q a w (r_hz 5):=
 reg (l0:=[(3,ii n3),(5,pT g5)]) [3] [3,13,14,15,16] [.val (.agg (x.cs mx)),.ret (ii n15) C0,.ari] hs ⟨e3,e5,trivial⟩ (aI l0.run (aI k1 (fun(w1:World) (hc0:C0 w1)=>(aI h2 (fun a'=>hN a' w1 hc0))))) (by kernel_rfl)
theorem hz_r6{i:Nat}(hs:Sl 19 a l df)(e9:Lk l 9 (ii (i:Int)))(h0: -9223372036854775808<=(i:Int)+1/\(i:Int)+1<=9223372036854775807)
  (hN: ∀a',Sl 19 a' ((9,ii ((i:Int)+1))::dropL [9,17] l) df->N a' w):Rg N Q a w (r_hz 6):=
 reg (l0:=[(9,ii (i:Int))]) [9] [9,17] [.ari] hs ⟨e9,trivial⟩ (aI h0 hN) (by kernel_rfl)
theorem hz_r7{n3:Int}(hs:Sl 19 a l df)(e3:Lk l 3 (ii n3))
  (hN: ∀a',Sl 19 a' ((2,ii n3)::dropL [2,18] l) df->N a' w):Rg N Q a w (r_hz 7):=
 reg (l0:=[(3,ii n3)]) [2] [2,18] [] hs ⟨e3,trivial⟩ hN (by kernel_rfl)
noncomputable def r_hp (n:Nat):Code:=((Tryz.f101.body.bind (findR n)).getD .skip)
noncomputable def hpL0:Code:=(.seq (r_hp 2) (.seq (.cond (.tmp 12) .skip (.exit 0)) (.seq (.block 1 (.seq (r_hp 3) (.seq (.seq (r_hp 4) (.cond (.tmp 36) (.seq (r_hp 5) .ret) .skip)) (r_hp 6)))) (r_hp 7))))
noncomputable def hpBody:Code:=(.seq (r_hp 0) (.seq (.seq (r_hp 1) (.block 0 (.loop hpL0))) (.seq (.seq (r_hp 8) (.cond (.tmp 49) (.seq (r_hp 9) .ret) .skip)) (.seq (r_hp 10) .ret))))
theorem hp_body:Tryz.f101.body=some hpBody:=by kernel_rfl
theorem hp_r0(hs:Sl 51 a l df)
  (hN: ∀a',Sl 51 a' ((6,.pointer none)::dropL [6] l) df->N a' w):Rg N Q a w (r_hp 0):=
 reg (l0:=[]) [6] [6] [] hs trivial hN (by kernel_rfl)
theorem hp_r1{pd:Option Addr}{pn pc:Nat}(hs:Sl 51 a l df)(e1:Lk l 1 (.slice pd pn pc))
  (hN: ∀a',Sl 51 a' ((9,.slice pd pn pc)::(10,ii (pn:Int))::(11,ii 0)::dropL [9,10,11] l) df->N a' w):Rg N Q a w (r_hp 1):=
 reg (l0:=[(1,.slice pd pn pc)]) [9,10,11] [9,10,11] [] hs ⟨e1,trivial⟩ hN (by kernel_rfl)
theorem hp_r2{i pn:Nat}{b12:Bool}(hs:Sl 51 a l df)(e11:Lk l 11 (ii (i:Int)))(e10:Lk l 10 (ii (pn:Int)))(h0:decide ((i:Int)<(pn:Int))=b12)
  (hN: ∀a',Sl 51 a' ((12,.bool b12)::dropL [12] l) df->N a' w):Rg N Q a w (r_hp 2):=
 reg (l0:=[(11,ii (i:Int)),(10,ii (pn:Int))]) [12] [12] [.bit b12] hs ⟨e11,e10,trivial⟩ (aI h0 hN) (by kernel_rfl)
theorem hp_r8{gd od:Nat}{ty nm:ByteArray}{b49:Bool}(hs:Sl 51 a l df)(e0:Lk l 0 (pF gd od))(e2:Lk l 2 (.string nm))(l0:Lp 9 (pF gd (od+1)) (.string ty) w)(h1:decide (ty≠nm)=b49)
  (hN: ∀a',Sl 51 a' ((49,.bool b49)::dropL [44,45,46,47,48,49] l) df->N a' w):Rg N Q a w (r_hp 8):=
 reg (l0:=[(0,pF gd od),(2,.string nm)]) [49] [44,45,46,47,48,49] [.val (.string ty),.bit b49] hs ⟨e0,e2,trivial⟩ (aI l0.run (aI h1 hN)) (by kernel_rfl)
theorem hp_r9(hs:Sl 51 a l df)
  (hN: ∀a',Sl 51 a' ((6,.pointer none)::dropL [6] l) df->N a' w):Rg N Q a w (r_hp 9):=
 reg (l0:=[]) [6] [6] [] hs trivial hN (by kernel_rfl)
theorem hp_r10{gd od:Nat}(hs:Sl 51 a l df)(e0:Lk l 0 (pF gd od))
  (hN: ∀a',Sl 51 a' ((6,pF gd od)::dropL [6,50] l) df->N a' w):Rg N Q a w (r_hp 10):=
 reg (l0:=[(0,pF gd od)]) [6] [6,50] [] hs ⟨e0,trivial⟩ hN (by kernel_rfl)
noncomputable def r_hi (n:Nat):Code:=((Tryz.f93.body.bind (findR n)).getD .skip)
noncomputable def hiBody:Code:=(.seq (r_hi 0) (.seq (.seq (r_hi 1) (.cond (.tmp 12) (.seq (r_hi 2) .ret) .skip)) (.seq (.seq (r_hi 3) (.block 0 (.seq (r_hi 4) (.cond (.tmp 22) (.seq (r_hi 5) (.seq (r_hi 6) .ret)) (.seq (r_hi 7) (.cond (.tmp 40) (.seq (r_hi 8) (.seq (r_hi 9) .ret)) (.seq (r_hi 10) (.cond (.tmp 61) (.seq (r_hi 11) (.seq (r_hi 12) .ret)) (.seq (r_hi 13) (.cond (.tmp 67) (.seq (r_hi 14) (.seq (r_hi 15) .ret)) .skip)))))))))) (.seq (r_hi 16) .ret))))
theorem hi_body:Tryz.f93.body=some hiBody:=by kernel_rfl
theorem hi_r0{d:Dt}{m:Dm}(hs:Sl 72 a l df)(e1:Lk l 1 (.agg (d.cs m)))
  (hN: ∀a',Sl 72 a' ((3,pT w.heap.size)::(4,.bool false)::dropL [3,4] l) df->N a' (w.alloc (.cells (d.cs m) 53))):Rg N Q a w (r_hi 0):=
 reg (l0:=[(1,.agg (d.cs m))]) [3,4] [3,4] [.raw] hs ⟨e1,trivial⟩ hN (by kernel_rfl)
theorem hi_r1{g3:Nat}{o:Int}{b12:Bool}(hs:Sl 72 a l df)(e3:Lk l 3 (pT g3))(l0:Lp 3 (pF g3 (5+0)) (ii o) w)(h1:decide (o=0)=b12)
  (hN: ∀a',Sl 72 a' ((12,.bool b12)::dropL [9,10,11,12] l) df->N a' w):Rg N Q a w (r_hi 1):=
 reg (l0:=[(3,pT g3)]) [12] [9,10,11,12] [.val (ii o),.bit b12] hs ⟨e3,trivial⟩ (aI l0.run (aI h1 hN)) (by kernel_rfl)
theorem hi_r2(hs:Sl 72 a l df)
  (hN: ∀a',Sl 72 a' ((4,.bool true)::dropL [4] l) df->N a' w):Rg N Q a w (r_hi 2):=
 reg (l0:=[]) [4] [4] [] hs trivial hN (by kernel_rfl)
theorem hi_r3{gh bm g3:Nat}{o:Int}{v:Value}(hs:Sl 72 a l df)(e0:Lk l 0 (pT gh))(e3:Lk l 3 (pT g3))(l0:Lp 79 (pT gh) (.map (some bm)) w)(l1:Lp 3 (pF g3 (5+0)) (ii o) w)(l2:Lkp Tryz.prog 79 (.map (some bm)) (ii o) false (v) w)
  (hN: ∀a' mm,Sl 72 a' ((20,v)::dropL (List.range' 13 8) l) df->N a' (w.drewN mm)):Rg N Q a w (r_hi 3):=
 regQ (l0:=[(0,pT gh),(3,pT g3)]) [20] (List.range' 13 8) [.val (.map (some bm)),.val (ii o),.val (v)] hs ⟨e0,e3,trivial⟩ (aI l0 (aI l1 (aI l2 hN))) (by kernel_rfl)
theorem hi_r4{v20:Value}{p:Option Addr}{b:Bool}(hs:Sl 72 a l df)(e20:Lk l 20 (v20))(i0: ∀w,(Instr.typeAssert (v20) 81 126 true).run Tryz.prog w=.ok (.tuple #[.pointer p,.bool b]) w)
  (hN: ∀a',Sl 72 a' ((22,.bool b)::(23,.pointer p)::dropL [21,22,23] l) df->N a' w):Rg N Q a w (r_hi 4):=
 reg (l0:=[(20,v20)]) [22,23] [21,22,23] [.val (.tuple #[.pointer p,.bool b])] hs ⟨e20,trivial⟩ (aI (i0 w) hN) (by kernel_rfl)
theorem hi_r5{p23:Option Addr}(hs:Sl 72 a l df)(e23:Lk l 23 (.pointer p23))
  (hN: ∀a',Sl 72 a' ((5,.pointer p23)::dropL [5] l) df->N a' w):Rg N Q a w (r_hi 5):=
 reg (l0:=[(23,.pointer p23)]) [5] [5] [] hs ⟨e23,trivial⟩ hN (by kernel_rfl)
theorem hi_r7{v20:Value}{p:Option Addr}{b:Bool}(hs:Sl 72 a l df)(e20:Lk l 20 (v20))(i0: ∀w,(Instr.typeAssert (v20) 81 146 true).run Tryz.prog w=.ok (.tuple #[.pointer p,.bool b]) w)
  (hN: ∀a',Sl 72 a' ((40,.bool b)::(41,.pointer p)::dropL [39,40,41] l) df->N a' w):Rg N Q a w (r_hi 7):=
 reg (l0:=[(20,v20)]) [40,41] [39,40,41] [.val (.tuple #[.pointer p,.bool b])] hs ⟨e20,trivial⟩ (aI (i0 w) hN) (by kernel_rfl)
theorem hi_r8{p41:Option Addr}(hs:Sl 72 a l df)(e41:Lk l 41 (.pointer p41))
  (hN: ∀a',Sl 72 a' ((6,.pointer p41)::dropL [6] l) df->N a' w):Rg N Q a w (r_hi 8):=
 reg (l0:=[(41,.pointer p41)]) [6] [6] [] hs ⟨e41,trivial⟩ hN (by kernel_rfl)
theorem hi_r10{v20:Value}{p:Option Addr}{b:Bool}(hs:Sl 72 a l df)(e20:Lk l 20 (v20))(i0: ∀w,(Instr.typeAssert (v20) 81 115 true).run Tryz.prog w=.ok (.tuple #[.pointer p,.bool b]) w)
  (hN: ∀a',Sl 72 a' ((61,.bool b)::(62,.pointer p)::dropL [60,61,62] l) df->N a' w):Rg N Q a w (r_hi 10):=
 reg (l0:=[(20,v20)]) [61,62] [60,61,62] [.val (.tuple #[.pointer p,.bool b])] hs ⟨e20,trivial⟩ (aI (i0 w) hN) (by kernel_rfl)
theorem hi_r11{p62:Option Addr}(hs:Sl 72 a l df)(e62:Lk l 62 (.pointer p62))
  (hN: ∀a',Sl 72 a' (dropL [7] l) df->N a' w):Rg N Q a w (r_hi 11):=
 reg (l0:=[(62,.pointer p62)]) [] [7] [] hs ⟨e62,trivial⟩ hN (by kernel_rfl)
theorem hi_r12{g3:Nat}{k:Int}{b65:Bool}(hs:Sl 72 a l df)(e3:Lk l 3 (pT g3))(l0:Lp 3 (pT g3) (ii k) w)(h1:decide (k=6)=b65)
  (hN: ∀a',Sl 72 a' ((4,.bool b65)::dropL [4,63,64,65] l) df->N a' w):Rg N Q a w (r_hi 12):=
 reg (l0:=[(3,pT g3)]) [4] [4,63,64,65] [.val (ii k),.bit b65] hs ⟨e3,trivial⟩ (aI l0.run (aI h1 hN)) (by kernel_rfl)
theorem hi_r13{v20:Value}{p:Option Addr}{b:Bool}(hs:Sl 72 a l df)(e20:Lk l 20 (v20))(i0: ∀w,(Instr.typeAssert (v20) 81 151 true).run Tryz.prog w=.ok (.tuple #[.pointer p,.bool b]) w)
  (hN: ∀a',Sl 72 a' ((67,.bool b)::(68,.pointer p)::dropL [66,67,68] l) df->N a' w):Rg N Q a w (r_hi 13):=
 reg (l0:=[(20,v20)]) [67,68] [66,67,68] [.val (.tuple #[.pointer p,.bool b])] hs ⟨e20,trivial⟩ (aI (i0 w) hN) (by kernel_rfl)
theorem hi_r14{p68:Option Addr}(hs:Sl 72 a l df)(e68:Lk l 68 (.pointer p68))
  (hN: ∀a',Sl 72 a' (dropL [8] l) df->N a' w):Rg N Q a w (r_hi 14):=
 reg (l0:=[(68,.pointer p68)]) [] [8] [] hs ⟨e68,trivial⟩ hN (by kernel_rfl)
theorem hi_r15{g3:Nat}{k:Int}{b71:Bool}(hs:Sl 72 a l df)(e3:Lk l 3 (pT g3))(l0:Lp 3 (pT g3) (ii k) w)(h1:decide (k=7)=b71)
  (hN: ∀a',Sl 72 a' ((4,.bool b71)::dropL [4,69,70,71] l) df->N a' w):Rg N Q a w (r_hi 15):=
 reg (l0:=[(3,pT g3)]) [4] [4,69,70,71] [.val (ii k),.bit b71] hs ⟨e3,trivial⟩ (aI l0.run (aI h1 hN)) (by kernel_rfl)
theorem hi_r16(hs:Sl 72 a l df)
  (hN: ∀a',Sl 72 a' ((4,.bool false)::dropL [4] l) df->N a' w):Rg N Q a w (r_hi 16):=
 reg (l0:=[]) [4] [4] [] hs trivial hN (by kernel_rfl)
theorem hi_r6_t{g3 g5 pn pc:Nat}{k:Int}{pd p36:Option Addr}{ty:ByteArray}{b37:Bool}(hs:Sl 72 a l df)(e3:Lk l 3 (pT g3))(e5:Lk l 5 (pT g5))(l0:Lp 3 (pT g3) (ii k) w)(h1:decide (k=9)=true)(l2:Lp 24 (pF g3 (5+4)) (.slice pd pn pc) w)(l3:Lp 9 (pF g3 1) (.string ty) w)(k4: ∀mm,Ca 101 #[pT g5,.slice pd pn pc,.string ty] (w.drewN mm) fun e w'=>e=.returned (.pointer p36)/\∃m',w'=w.drewN m')(h5: ∀w,(binOp .neq 125 (.pointer p36) (.pointer none)).run Tryz.prog w=.ok (.bool b37) w)
  (hN: ∀a' mm,Sl 72 a' ((4,.bool b37)::dropL (4::List.range' 24 15) l) df->N a' (w.drewN mm)):Rg N Q a w (r_hi 6):=
 regQ (l0:=[(3,pT g3),(5,pT g5)]) [4] (4::List.range' 24 15) [.val (ii k),.bit true,.val (.slice pd pn pc),.val (.string ty),.val (.pointer p36),.bin (.bool b37)] hs ⟨e3,e5,trivial⟩ (aI l0 (aI h1 (aI l2 (aI l3 (aI k4 (aI (fun w'=>bin_run (x:=.tmp 36) (y:=.const (.pointer none)) (by kernel_rfl) (h5 w')) hN)))))) (by kernel_rfl)
theorem hi_r6_f{g3:Nat}{k:Int}(hs:Sl 72 a l df)(e3:Lk l 3 (pT g3))(l0:Lp 3 (pT g3) (ii k) w)(h1:decide (k=9)=false)
  (hN: ∀a' mm,Sl 72 a' ((4,.bool false)::dropL (4::List.range' 24 15) l) df->N a' (w.drewN mm)):Rg N Q a w (r_hi 6):=
 regQ (l0:=[(3,pT g3)]) [4] (4::List.range' 24 15) [.val (ii k),.bit false] hs ⟨e3,trivial⟩ (aI l0 (aI h1 hN)) (by kernel_rfl)
theorem hi_r9_t{g3 g6 an ac:Nat}{k fr cp:Int}{ad:Option Addr}{b58:Bool}(hs:Sl 72 a l df)(e3:Lk l 3 (pT g3))(e6:Lk l 6 (pT g6))(l0:Lp 3 (pT g3) (ii k) w)(h1:decide (k=5)=true)(l2:Lp 3 (pF g3 (5+1)) (ii fr) w)(l3:Lp 3 (pF g3 (5+3)) (ii cp) w)(h4: -9223372036854775808<=fr+cp/\fr+cp<=9223372036854775807)(l5:Lp 23 (pT g6) (.slice ad an ac) w)(h6:decide ((fr+cp)<=(an:Int))=b58)
  (hN: ∀a' mm,Sl 72 a' ((4,.bool b58)::dropL (4::List.range' 42 18) l) df->N a' (w.drewN mm)):Rg N Q a w (r_hi 9):=
 regQ (l0:=[(3,pT g3),(6,pT g6)]) [4] (4::List.range' 42 18) [.val (ii k),.bit true,.val (ii fr),.val (ii cp),.ari,.val (.slice ad an ac),.bit b58] hs ⟨e3,e6,trivial⟩ (aI l0 (aI h1 (aI l2 (aI l3 (aI h4 (aI l5 (aI h6 hN))))))) (by kernel_rfl)
theorem hi_r9_f{g3:Nat}{k:Int}(hs:Sl 72 a l df)(e3:Lk l 3 (pT g3))(l0:Lp 3 (pT g3) (ii k) w)(h1:decide (k=5)=false)
  (hN: ∀a' mm,Sl 72 a' ((4,.bool false)::dropL (4::List.range' 42 18) l) df->N a' (w.drewN mm)):Rg N Q a w (r_hi 9):=
 regQ (l0:=[(3,pT g3)]) [4] (4::List.range' 42 18) [.val (ii k),.bit false] hs ⟨e3,trivial⟩ (aI l0 (aI h1 hN)) (by kernel_rfl)
noncomputable def r_hy (n:Nat):Code:=((Tryz.f64.body.bind (findR n)).getD .skip)
noncomputable def hyBody:Code:=(.seq (r_hy 0) (.seq (r_hy 1) .ret))
theorem hy_body:Tryz.f64.body=some hyBody:=by kernel_rfl
theorem hy_r0{d:Dt}{m:Dm}(hs:Sl 20 a l df)(e1:Lk l 1 (.agg (d.cs m)))
  (hN: ∀a',Sl 20 a' ((4,pT w.heap.size)::(6,.bool false)::dropL [4,6] l) df->N a' (w.alloc (.cells (d.cs m) 53))):Rg N Q a w (r_hy 0):=
 reg (l0:=[(1,.agg (d.cs m))]) [4,6] [4,6] [.raw] hs ⟨e1,trivial⟩ hN (by kernel_rfl)
theorem hy_r1_t{g4 gh:Nat}{d:Dt}{m:Dm}{C0 C1:World->Prop}{k kd:Int}{b18:Bool}(hs:Sl 20 a l df)(e4:Lk l 4 (pT g4))(e2:Lk l 2 (ii kd))(e0:Lk l 0 (pT gh))(l0:Lp 53 (pT g4) (.agg (d.cs m)) w)(k1:Cl 65 #[.agg (d.cs m)] w (.bool true) C0)(l2: ∀(w1:World),C0 w1->Lp 3 (pT g4) (ii k) w1)(h3:decide (k=kd)=true)(l4: ∀(w1:World),C0 w1->Lp 53 (pT g4) (.agg (d.cs m)) w1)(k5: ∀(w1:World),C0 w1->Cl 93 #[pT gh,.agg (d.cs m)] w1 (.bool b18) C1)
  (hN: ∀a' (w1:World) (w2:World),C0 w1->C1 w2->Sl 20 a' ((6,.bool b18)::dropL (List.range' 6 14) l) df->N a' w2):Rg N Q a w (r_hy 1):=
 reg (l0:=[(4,pT g4),(2,ii kd),(0,pT gh)]) [6] (List.range' 6 14) [.val (.agg (d.cs m)),.ret (.bool true) C0,.val (ii k),.bit true,.val (.agg (d.cs m)),.ret (.bool b18) C1] hs ⟨e4,e2,e0,trivial⟩ (aI l0.run (aI k1 (fun(w1:World) (hc0:C0 w1)=>(aI (l2 w1 hc0).run (aI h3 (aI (l4 w1 hc0).run (aI (k5 w1 hc0) (fun(w2:World) (hc1:C1 w2)=>(fun a'=>hN a' w1 w2 hc0 hc1))))))))) (by kernel_rfl)
theorem hy_r1_f{g4:Nat}{d:Dt}{m:Dm}{C0:World->Prop}{k kd:Int}(hs:Sl 20 a l df)(e4:Lk l 4 (pT g4))(e2:Lk l 2 (ii kd))(l0:Lp 53 (pT g4) (.agg (d.cs m)) w)(k1:Cl 65 #[.agg (d.cs m)] w (.bool true) C0)(l2: ∀(w1:World),C0 w1->Lp 3 (pT g4) (ii k) w1)(h3:decide (k=kd)=false)
  (hN: ∀a' (w1:World),C0 w1->Sl 20 a' ((6,.bool false)::dropL (List.range' 6 14) l) df->N a' w1):Rg N Q a w (r_hy 1):=
 reg (l0:=[(4,pT g4),(2,ii kd)]) [6] (List.range' 6 14) [.val (.agg (d.cs m)),.ret (.bool true) C0,.val (ii k),.bit false] hs ⟨e4,e2,trivial⟩ (aI l0.run (aI k1 (fun(w1:World) (hc0:C0 w1)=>(aI (l2 w1 hc0).run (aI h3 (fun a'=>hN a' w1 hc0)))))) (by kernel_rfl)
noncomputable def r_hq (n:Nat):Code:=((Tryz.f72.body.bind (findR n)).getD .skip)
noncomputable def hqBody:Code:=(.seq (r_hq 0) (.seq (.seq (r_hq 1) (.seq (r_hq 2) (.cond (.tmp 20) (.seq (r_hq 3) .ret) .skip))) (.seq (r_hq 4) .ret)))
theorem hq_body:Tryz.f72.body=some hqBody:=by kernel_rfl
theorem hq_r0{d:Dt}{m:Dm}(hs:Sl 31 a l df)(e1:Lk l 1 (.agg (d.cs m)))
  (hN: ∀a',Sl 31 a' ((3,pT w.heap.size)::(4,.pointer none)::(5,.pointer none)::dropL [3,4,5] l) df->N a' (w.alloc (.cells (d.cs m) 53))):Rg N Q a w (r_hq 0):=
 reg (l0:=[(1,.agg (d.cs m))]) [3,4,5] [3,4,5] [.raw] hs ⟨e1,trivial⟩ hN (by kernel_rfl)
theorem hq_r2{b7:Bool}(hs:Sl 31 a l df)(e7:Lk l 7 (.bool b7))
  (hN: ∀a',Sl 31 a' ((20,.bool b7)::dropL [20] l) df->N a' w):Rg N Q a w (r_hq 2):=
 reg (l0:=[(7,.bool b7)]) [20] [20] [] hs ⟨e7,trivial⟩ hN (by kernel_rfl)
theorem hq_r3{g6 g3 pn pc:Nat}{pd p29:Option Addr}{ty:ByteArray}(hs:Sl 31 a l df)(e6:Lk l 6 (pT g6))(e3:Lk l 3 (pT g3))(l0:Lp 24 (pF g3 (5+4)) (.slice pd pn pc) w)(l1:Lp 9 (pF g3 1) (.string ty) w)(k2: ∀mm,Ca 101 #[pT g6,.slice pd pn pc,.string ty] (w.drewN mm) fun e w'=>e=.returned (.pointer p29)/\∃m',w'=w.drewN m')
  (hN: ∀a' mm,Sl 31 a' ((4,.pointer p29)::(5,pT g6)::dropL (4::5::List.range' 21 10) l) df->N a' (w.drewN mm)):Rg N Q a w (r_hq 3):=
 regQ (l0:=[(6,pT g6),(3,pT g3)]) [4,5] (4::5::List.range' 21 10) [.val (.slice pd pn pc),.val (.string ty),.val (.pointer p29)] hs ⟨e6,e3,trivial⟩ (aI l0 (aI l1 (aI k2 hN))) (by kernel_rfl)
theorem hq_r1{gh bm g3:Nat}{o:Int}{v:Value}{p:Option Addr}{b:Bool}(hs:Sl 31 a l df)(e0:Lk l 0 (pT gh))(e3:Lk l 3 (pT g3))(l0:Lp 79 (pT gh) (.map (some bm)) w)(l1:Lp 3 (pF g3 (5+0)) (ii o) w)(l2:Lkp Tryz.prog 79 (.map (some bm)) (ii o) false (v) w)(i3: ∀w,(Instr.typeAssert (v) 81 126 true).run Tryz.prog w=.ok (.tuple #[.pointer p,.bool b]) w)
  (hN: ∀a' mm,Sl 31 a' ((6,.pointer p)::(7,.bool b)::dropL (List.range' 6 14) l) df->N a' (w.drewN mm)):Rg N Q a w (r_hq 1):=
 regQ (l0:=[(0,pT gh),(3,pT g3)]) [6,7] (List.range' 6 14) [.val (.map (some bm)),.val (ii o),.val (v),.val (.tuple #[.pointer p,.bool b])] hs ⟨e0,e3,trivial⟩ (aI l0 (aI l1 (aI l2 (aI i3 hN)))) (by kernel_rfl)
noncomputable def r_hx (n:Nat):Code:=((Tryz.f69.body.bind (findR n)).getD .skip)
noncomputable def hxBody:Code:=(.seq (r_hx 0) (.seq (r_hx 1) (.seq (.seq (r_hx 2) (.cond (.tmp 22) (.seq (r_hx 3) .ret) .skip)) (.seq (r_hx 4) (.seq (r_hx 5) .ret)))))
theorem hx_body:Tryz.f69.body=some hxBody:=by kernel_rfl
theorem hx_r0{d:Dt}{m:Dm}(hs:Sl 41 a l df)(e1:Lk l 1 (.agg (d.cs m)))
  (hN: ∀a',Sl 41 a' ((3,pT w.heap.size)::(4,.slice none 0 0)::dropL [3,4] l) df->N a' (w.alloc (.cells (d.cs m) 53))):Rg N Q a w (r_hx 0):=
 reg (l0:=[(1,.agg (d.cs m))]) [3,4] [3,4] [.raw] hs ⟨e1,trivial⟩ hN (by kernel_rfl)
theorem hx_r1{gh bm g3:Nat}{o:Int}{v:Value}{p:Option Addr}{b:Bool}(hs:Sl 41 a l df)(e0:Lk l 0 (pT gh))(e3:Lk l 3 (pT g3))(l0:Lp 79 (pT gh) (.map (some bm)) w)(l1:Lp 3 (pF g3 (5+0)) (ii o) w)(l2:Lkp Tryz.prog 79 (.map (some bm)) (ii o) false (v) w)(i3: ∀w,(Instr.typeAssert (v) 81 146 true).run Tryz.prog w=.ok (.tuple #[.pointer p,.bool b]) w)
  (hN: ∀a' mm,Sl 41 a' ((5,.pointer p)::(6,.bool b)::dropL (5::6::List.range' 9 12) l) df->N a' (w.drewN mm)):Rg N Q a w (r_hx 1):=
 regQ (l0:=[(0,pT gh),(3,pT g3)]) [5,6] (5::6::List.range' 9 12) [.val (.map (some bm)),.val (ii o),.val (v),.val (.tuple #[.pointer p,.bool b])] hs ⟨e0,e3,trivial⟩ (aI l0 (aI l1 (aI l2 (aI i3 hN)))) (by kernel_rfl)
theorem hx_r2{b6:Bool}(hs:Sl 41 a l df)(e6:Lk l 6 (.bool b6))
  (hN: ∀a',Sl 41 a' ((22,.bool (!b6))::dropL [21,22] l) df->N a' w):Rg N Q a w (r_hx 2):=
 reg (l0:=[(6,.bool b6)]) [22] [21,22] [] hs ⟨e6,trivial⟩ hN (by kernel_rfl)
theorem hx_r4{g3:Nat}{fr cp:Int}(hs:Sl 41 a l df)(e3:Lk l 3 (pT g3))(l0:Lp 3 (pF g3 (5+1)) (ii fr) w)(l1:Lp 3 (pF g3 (5+3)) (ii cp) w)(h2: -9223372036854775808<=fr+cp/\fr+cp<=9223372036854775807)
  (hN: ∀a' mm,Sl 41 a' ((7,ii fr)::(8,ii (fr+cp))::dropL (7::8::List.range' 23 10) l) df->N a' (w.drewN mm)):Rg N Q a w (r_hx 4):=
 regQ (l0:=[(3,pT g3)]) [7,8] (7::8::List.range' 23 10) [.val (ii fr),.val (ii fr),.val (ii cp),.ari] hs ⟨e3,trivial⟩ (aI l0 (aI l0 (aI l1 (aI h2 hN)))) (by kernel_rfl)
theorem hx_r5{g5 an ac xn xc:Nat}{ad xd:Option Addr}{f7 t8:Int}(hs:Sl 41 a l df)(e5:Lk l 5 (pT g5))(e7:Lk l 7 (ii f7))(e8:Lk l 8 (ii t8))(l0:Lp 23 (pT g5) (.slice ad an ac) w)(i1: ∀w,(Instr.sliceAt 23 (.slice ad an ac) (some (ii f7)) (some (ii t8)) (some (ii t8))).run Tryz.prog w=.ok (.slice xd xn xc) w)
  (hN: ∀a',Sl 41 a' ((4,.slice xd xn xc)::dropL (4::List.range' 33 8) l) df->N a' w):Rg N Q a w (r_hx 5):=
 reg (l0:=[(5,pT g5),(7,ii f7),(8,ii t8)]) [4] (4::List.range' 33 8) [.val (.slice ad an ac),.val (.slice xd xn xc)] hs ⟨e5,e7,e8,trivial⟩ (aI l0.run (aI (i1 w) hN)) (by kernel_rfl)
noncomputable def r_hw (n:Nat):Code:=((Tryz.f66.body.bind (findR n)).getD .skip)
noncomputable def hwBody:Code:=(.seq (r_hw 0) (.seq (r_hw 1) .ret))
theorem hw_body:Tryz.f66.body=some hwBody:=by kernel_rfl
theorem hw_r0(hs:Sl 7 a l df)
  (hN: ∀a',Sl 7 a' ((2,.nilIface)::dropL [2] l) df->N a' w):Rg N Q a w (r_hw 0):=
 reg (l0:=[]) [2] [2] [] hs trivial hN (by kernel_rfl)
theorem hw_r1{c:Int}(hs:Sl 7 a l df)(e0:Lk l 0 (ii c))
  (hN: ∀a',Sl 7 a' ((2,.iface 156 (pT w.heap.size))::dropL [2,3,4,5,6] l) df->N a' (w.alloc (.cells #[ii c,ii 0,.string (⟨#[]⟩)] 158))):Rg N Q a w (r_hw 1):=
 reg (l0:=[(0,ii c)]) [2] [2,3,4,5,6] [.raw,.raw,.raw] hs ⟨e0,trivial⟩ hN (by kernel_rfl)
noncomputable def r_ha (n:Nat):Code:=((Tryz.f89.body.bind (findR n)).getD .skip)
noncomputable def haBody:Code:=(.seq (r_ha 0) (.seq (r_ha 1) .ret))
theorem ha_body:Tryz.f89.body=some haBody:=by kernel_rfl
theorem ha_r0(hs:Sl 6 a l df)
  (hN: ∀a',Sl 6 a' ((2,.bool false)::dropL [2] l) df->N a' w):Rg N Q a w (r_ha 0):=
 reg (l0:=[]) [2] [2] [] hs trivial hN (by kernel_rfl)
theorem ha_r1{sd:Option Addr}{sn sc:Nat}{b4:Bool}{C0:World->Prop}(hs:Sl 6 a l df)(e0:Lk l 0 (.slice sd sn sc))(k0:Cl 109 #[.slice sd sn sc,.func (.func 110) #[] #[]] w (.bool b4) C0)
  (hN: ∀a' (w1:World),C0 w1->Sl 6 a' ((2,.bool (!b4))::dropL [2,3,4,5] l) df->N a' w1):Rg N Q a w (r_ha 1):=
 reg (l0:=[(0,.slice sd sn sc)]) [2] [2,3,4,5] [.ret (.bool b4) C0] hs ⟨e0,trivial⟩ (aI k0 (fun(w1:World) (hc0:C0 w1)=>(fun a'=>hN a' w1 hc0))) (by kernel_rfl)
noncomputable def r_h1 (n:Nat):Code:=((Tryz.f110.body.bind (findR n)).getD .skip)
noncomputable def h1Body:Code:=(.seq (r_h1 0) (.seq (r_h1 1) .ret))
theorem h1_body:Tryz.f110.body=some h1Body:=by kernel_rfl
theorem h1_r0{d:Dt}{m:Dm}(hs:Sl 6 a l df)(e0:Lk l 0 (.agg (d.cs m)))
  (hN: ∀a',Sl 6 a' ((1,pT w.heap.size)::(2,.bool false)::dropL [1,2] l) df->N a' (w.alloc (.cells (d.cs m) 53))):Rg N Q a w (r_h1 0):=
 reg (l0:=[(0,.agg (d.cs m))]) [1,2] [1,2] [.raw] hs ⟨e0,trivial⟩ hN (by kernel_rfl)
theorem h1_r1{g1:Nat}{d:Dt}{m:Dm}{b4:Bool}{C0:World->Prop}(hs:Sl 6 a l df)(e1:Lk l 1 (pT g1))(l0:Lp 53 (pT g1) (.agg (d.cs m)) w)(k1:Cl 65 #[.agg (d.cs m)] w (.bool b4) C0)
  (hN: ∀a' (w1:World),C0 w1->Sl 6 a' ((2,.bool (!b4))::dropL [2,3,4,5] l) df->N a' w1):Rg N Q a w (r_h1 1):=
 reg (l0:=[(1,pT g1)]) [2] [2,3,4,5] [.val (.agg (d.cs m)),.ret (.bool b4) C0] hs ⟨e1,trivial⟩ (aI l0.run (aI k1 (fun(w1:World) (hc0:C0 w1)=>(fun a'=>hN a' w1 hc0)))) (by kernel_rfl)
end Go.Proofs.YtbjegfpfmnleeaaGreatDoor
