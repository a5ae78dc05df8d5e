/-
   Written by an AI agent.
-/
import Derived.Test.YtlhfickniegooaaDoorProg
import Derived.Test.YtlhfickniegooaaDoorPk04
import Derived.Test.YtlhfickniegooaaDoorPk05
import Derived.Test.YtlhfickniegooaaDoorPk18
import Derived.Test.YtlhfickniegooaaDoorPk29
import Derived.Test.YtlhfickniegooaaDoorPk21
namespace Go.Proofs.YtlhfickniegooaaDoor
open Go.RowKit Go.Sort
set_option maxRecDepth 100000
variable {a:Act} {w:World} {df:List Deferred} {N:Act->World->Prop} {Q:Exit->Act->World->Prop} {l:List (Nat×Value)}
noncomputable def r_ov (n:Nat):Code:=((Tryd.f31.body.bind (findR n)).getD .skip)
noncomputable def ovL0:Code:=(.seq (.seq (r_ov 32) (.cond (.tmp 112) .skip (.exit 4))) (.seq (.block 5 (.seq (r_ov 34) (.seq (.seq (r_ov 35) (.cond (.tmp 117) (r_ov 36) .skip)) (.seq (r_ov 37) (.cond (.tmp 132) (.seq (r_ov 38) .ret) .skip))))) (r_ov 33)))
noncomputable def ovL1:Code:=(.seq (.seq (r_ov 11) (.cond (.tmp 42) .skip (.exit 2))) (.block 3 (.seq (r_ov 12) (.seq (r_ov 13) (.seq (.seq (r_ov 14) (.cond (.tmp 47) (r_ov 15) .skip)) (r_ov 16))))))
noncomputable def ovBody:Code:=(.seq (r_ov 0) (.seq (.seq (r_ov 1) (.cond (.tmp 23) (.seq (r_ov 2) .ret) .skip)) (.seq (r_ov 3) (.seq (r_ov 4) (.seq (r_ov 5) (.seq (.seq (r_ov 6) (.block 0 (.rangeFunc (.tmp 31) #[32,33] (.seq (r_ov 7) (r_ov 8)) (.block 1 (.seq (r_ov 9) (.seq (r_ov 10) (.seq (.block 2 (.loop ovL1)) (.seq (.seq (r_ov 17) (.cond (.tmp 65) (.seq (r_ov 18) .ret) .skip)) (.seq (r_ov 19) (.seq (r_ov 20) (.seq (.seq (r_ov 21) (.cond (.tmp 79) (.seq (r_ov 22) .ret) .skip)) (.seq (r_ov 23) (.seq (r_ov 24) (.seq (.seq (r_ov 25) (.cond (.tmp 95) (.seq (r_ov 26) (.seq (r_ov 27) (.cond (.tmp 101) (.seq (r_ov 28) .ret) .skip))) .skip)) (.seq (r_ov 29) (.seq (r_ov 30) (.cond (.tmp 108) (.seq (r_ov 31) .ret) .skip))))))))))))))))) (.seq (.block 4 (.loop ovL0)) (.seq (r_ov 39) .ret))))))))
theorem ov_body:Tryd.f31.body=some ovBody:=by kernel_rfl
theorem ov_r0{gw k:Nat}{wk:Bool}{o:Sp}(hs:Sl 133 a l df)(e0:Lk l 0 (pT gw))(e1:Lk l 1 (ii (k:Int)))(e3:Lk l 3 (.bool wk))(e4:Lk l 4 (.agg o.cs))
  (hN: ∀a',Sl 133 a' ((5,pT w.heap.size)::(6,pT ((w.alloc (.cells #[pT gw] 47)).heap.size))::(8,pT (((w.alloc (.cells #[pT gw] 47)).alloc (.cells #[ii (k:Int)] 3)).heap.size))::(9,pT ((((w.alloc (.cells #[pT gw] 47)).alloc (.cells #[ii (k:Int)] 3)).alloc (.cells #[.bool wk] 4)).heap.size))::(10,pT (((((w.alloc (.cells #[pT gw] 47)).alloc (.cells #[ii (k:Int)] 3)).alloc (.cells #[.bool wk] 4)).alloc (.cells o.cs 59)).heap.size))::dropL [5,6,8,9,10] l) df->N a' (((((w.alloc (.cells #[pT gw] 47)).alloc (.cells #[ii (k:Int)] 3)).alloc (.cells #[.bool wk] 4)).alloc (.cells o.cs 59)).alloc (.cells #[.bool false] 4))):Rg N Q a w (r_ov 0):=
 reg (l0:=[(0,pT gw),(1,ii (k:Int)),(3,.bool wk),(4,.agg o.cs)]) [5,6,8,9,10] [5,6,8,9,10] [.raw,.raw,.raw,.raw,.raw] hs ⟨e0,e1,e3,e4,trivial⟩ hN (by kernel_rfl)
theorem ov_r1{fn:FuncId}{gc:Nat}{b23:Bool}(hs:Sl 133 a l df)(e2:Lk l 2 (.func (.func fn) #[] #[pT gc]))(h0: ∀w,(binOp .eql 41 (.func (.func fn) #[] #[pT gc]) (.nilFunc)).run Tryd.prog w=.ok (.bool b23) w)
  (hN: ∀a',Sl 133 a' ((23,.bool b23)::dropL [22,23] l) df->N a' w):Rg N Q a w (r_ov 1):=
 reg (l0:=[(2,.func (.func fn) #[] #[pT gc])]) [23] [22,23] [.bin (.bool b23)] hs ⟨e2,trivial⟩ (aI (bin_run (x:=.tmp 22) (y:=.const (.nilFunc)) (by kernel_rfl) (h0 w)) hN) (by kernel_rfl)
theorem ov_r3{C:World->Prop}{g5 gw g6 k g28 o28 gr:Nat}{C0:World->S3->World->Prop}(hs:Sl 133 a l df)(e5:Lk l 5 (pT g5))(e6:Lk l 6 (pT g6))(c0:C (w.drewN 1))(l1: ∀u,C u->Lp 47 (pT g5) (pT gw) u)(l2: ∀u,C u->Lp 3 (pT g6) (ii (k:Int)) u)(i3:Ix 50 (pF gw 2) (ii (k:Int)) (pF g28 o28))(l4: ∀u,C u->Lp 49 (pF g28 o28) (pT gr) u)(k5:Ca 39 #[pT gr] (w.drewN 1) fun e w'=> ∃q:S3,e=.returned (.slice q.d q.n q.c)/\C0 (w.drewN 1) q w')(c6: ∀(q:S3) (w1:World),C0 (w.drewN 1) q w1->C w1)(c7: ∀(q:S3) (w1:World),C0 (w.drewN 1) q w1->C (w1.alloc (.cells #[.slice none 0 0] 54)))(s8: ∀(q:S3) (w1:World),C0 (w.drewN 1) q w1->So 54 w1.heap.size 0 (.slice q.d q.n q.c) (w1.alloc (.cells #[.slice none 0 0] 54)) [.slice q.d q.n q.c])(c9:C ((w.drewN 1).alloc (.cells #[.slice none 0 0] 54)))(k10:Ca 39 #[pT gr] ((w.drewN 1).alloc (.cells #[.slice none 0 0] 54)) fun e w'=> ∃q:S3,e=.returned (.slice q.d q.n q.c)/\C0 ((w.drewN 1).alloc (.cells #[.slice none 0 0] 54)) q w')(c11: ∀(q:S3) (w1:World),C0 ((w.drewN 1).alloc (.cells #[.slice none 0 0] 54)) q w1->C w1)(s12: ∀(q:S3) (w1:World),C0 ((w.drewN 1).alloc (.cells #[.slice none 0 0] 54)) q w1->So 54 ((w.drewN 1).heap.size) 0 (.slice q.d q.n q.c) w1 [.slice q.d q.n q.c])
  (hN0: ∀a' (q:S3) (w1:World),C0 (w.drewN 1) q w1->Sl 133 a' ((11,pT w1.heap.size)::dropL (11::List.range' 24 7) l) df->N a' ((w1.alloc (.cells #[.slice none 0 0] 54)).setCells w1.heap.size 0 [.slice q.d q.n q.c]))
  (hN1: ∀a' (q:S3) (w1:World),C0 ((w.drewN 1).alloc (.cells #[.slice none 0 0] 54)) q w1->Sl 133 a' ((11,pT ((w.drewN 1).heap.size))::dropL (11::List.range' 24 7) l) df->N a' (w1.setCells ((w.drewN 1).heap.size) 0 [.slice q.d q.n q.c])):Rg N Q a w (r_ov 3):=
 regR (l0:=[(5,pT g5),(6,pT g6)]) 8 (.rd 0 (.rd 1 (.rd 2 (.rd 3 (.rd 4 (.rd 5 (.e2 6 (.e1 7 .fin) 7 [.raw,.exw (S3) (fun q=>.slice q.d q.n q.c) C0,.sto] (.e1 6 .fin)))))))) C [11] (11::List.range' 24 7) [.val (pT gw),.val (ii (k:Int)),.val (pF g28 o28),.val (pT gr),.exw (S3) (fun q=>.slice q.d q.n q.c) C0,.raw,.sto] hs ⟨e5,e6,trivial⟩ (aI c0 (aI (fun u hu=>(l1 u hu).run) (aI c0 (aI (fun u hu=>(l2 u hu).run) (aI c0 (aI c0 (aI c0 (aI i3 (aI c0 (aI (fun u hu=>(l4 u hu).run) (aI c0 (aI (aI k5 (fun(q:S3) (w1:World) (hc0:C0 (w.drewN 1) q w1)=>(aI (c6 q w1 hc0) (aI (c7 q w1 hc0) (aI (s8 q w1 hc0) (fun a'=>hN0 a' q w1 hc0)))))) (aI c9 (aI k10 (fun(q:S3) (w1:World) (hc0:C0 ((w.drewN 1).alloc (.cells #[.slice none 0 0] 54)) q w1)=>(aI (c11 q w1 hc0) (aI (s12 q w1 hc0) (fun a'=>hN1 a' q w1 hc0)))))))))))))))))) (by kernel_rfl)
theorem ov_r4(hs:Sl 133 a l df)(s0:So 3 w.heap.size 0 (ii 0) (w.alloc (.cells #[ii 0] 3)) [ii 0])
  (hN: ∀a',Sl 133 a' ((12,pT w.heap.size)::dropL [12] l) df->N a' ((w.alloc (.cells #[ii 0] 3)).setCells w.heap.size 0 [ii 0])):Rg N Q a w (r_ov 4):=
 reg (l0:=[]) [12] [12] [.raw,.sto] hs trivial (aI s0 hN) (by kernel_rfl)
theorem ov_r5(hs:Sl 133 a l df)(s0:So 3 w.heap.size 0 (ii 0) (w.alloc (.cells #[ii 0] 3)) [ii 0])
  (hN: ∀a',Sl 133 a' ((13,pT w.heap.size)::dropL [13] l) df->N a' ((w.alloc (.cells #[ii 0] 3)).setCells w.heap.size 0 [ii 0])):Rg N Q a w (r_ov 5):=
 reg (l0:=[]) [13] [13] [.raw,.sto] hs trivial (aI s0 hN) (by kernel_rfl)
theorem ov_r6{fn:FuncId}{gc:Nat}(hs:Sl 133 a l df)(e2:Lk l 2 (.func (.func fn) #[] #[pT gc]))
  (hN: ∀a',Sl 133 a' ((31,.func (.func fn) #[] #[pT gc])::dropL [31] l) df->N a' w):Rg N Q a w (r_ov 6):=
 reg (l0:=[(2,.func (.func fn) #[] #[pT gc])]) [31] [31] [] hs ⟨e2,trivial⟩ hN (by kernel_rfl)
theorem ov_r7{dk:Dt}{mk:Dm}(hs:Sl 133 a l df)(e32:Lk l 32 (.agg (dk.cs mk)))(s0:So 31 w.heap.size 0 (.agg (dk.cs mk)) (w.alloc (.cells zA 31)) (dk.cs mk).toList)
  (hN: ∀a',Sl 133 a' ((14,pT w.heap.size)::dropL [14] l) df->N a' ((w.alloc (.cells zA 31)).setCells w.heap.size 0 (dk.cs mk).toList)):Rg N Q a w (r_ov 7):=
 reg (l0:=[(32,.agg (dk.cs mk))]) [14] [14] [.raw,.sto] hs ⟨e32,trivial⟩ (aI s0 hN) (by kernel_rfl)
theorem ov_r8{dv:Dt}{mv:Dm}(hs:Sl 133 a l df)(e33:Lk l 33 (.agg (dv.cs mv)))(s0:So 31 w.heap.size 0 (.agg (dv.cs mv)) (w.alloc (.cells zA 31)) (dv.cs mv).toList)
  (hN: ∀a',Sl 133 a' ((15,pT w.heap.size)::dropL [15] l) df->N a' ((w.alloc (.cells zA 31)).setCells w.heap.size 0 (dv.cs mv).toList)):Rg N Q a w (r_ov 8):=
 reg (l0:=[(33,.agg (dv.cs mv))]) [15] [15] [.raw,.sto] hs ⟨e33,trivial⟩ (aI s0 hN) (by kernel_rfl)
theorem ov_r9(hs:Sl 133 a l df)(s0:So 110 w.heap.size 0 (.agg #[ii 0,.string (⟨#[]⟩),ii 0,.int .u64 0,.string (⟨#[]⟩),ii 0,ii 0,ii 0,ii 0,.slice none 0 0,.slice none 0 0,ii 0,.string (⟨#[]⟩),ii 0,.int .u64 0,.string (⟨#[]⟩),ii 0,ii 0,ii 0,ii 0,.slice none 0 0,.slice none 0 0,ii 0]) (w.alloc (.cells #[ii 0,.string (⟨#[]⟩),ii 0,.int .u64 0,.string (⟨#[]⟩),ii 0,ii 0,ii 0,ii 0,.slice none 0 0,.slice none 0 0,ii 0,.string (⟨#[]⟩),ii 0,.int .u64 0,.string (⟨#[]⟩),ii 0,ii 0,ii 0,ii 0,.slice none 0 0,.slice none 0 0,ii 0] 110)) [ii 0,.string (⟨#[]⟩),ii 0,.int .u64 0,.string (⟨#[]⟩),ii 0,ii 0,ii 0,ii 0,.slice none 0 0,.slice none 0 0,ii 0,.string (⟨#[]⟩),ii 0,.int .u64 0,.string (⟨#[]⟩),ii 0,ii 0,ii 0,ii 0,.slice none 0 0,.slice none 0 0,ii 0])
  (hN: ∀a',Sl 133 a' ((16,pT w.heap.size)::dropL [16,34] l) df->N a' ((w.alloc (.cells #[ii 0,.string (⟨#[]⟩),ii 0,.int .u64 0,.string (⟨#[]⟩),ii 0,ii 0,ii 0,ii 0,.slice none 0 0,.slice none 0 0,ii 0,.string (⟨#[]⟩),ii 0,.int .u64 0,.string (⟨#[]⟩),ii 0,ii 0,ii 0,ii 0,.slice none 0 0,.slice none 0 0,ii 0] 110)).setCells w.heap.size 0 [ii 0,.string (⟨#[]⟩),ii 0,.int .u64 0,.string (⟨#[]⟩),ii 0,ii 0,ii 0,ii 0,.slice none 0 0,.slice none 0 0,ii 0,.string (⟨#[]⟩),ii 0,.int .u64 0,.string (⟨#[]⟩),ii 0,ii 0,ii 0,ii 0,.slice none 0 0,.slice none 0 0,ii 0])):Rg N Q a w (r_ov 9):=
 reg (l0:=[]) [16] [16,34] [.raw,.raw,.sto] hs trivial (aI s0 hN) (by kernel_rfl)
theorem ov_r10(hs:Sl 133 a l df)
  (hN: ∀a',Sl 133 a' ((17,.bool false)::dropL [17] l) df->N a' w):Rg N Q a w (r_ov 10):=
 reg (l0:=[]) [17] [17] [] hs trivial hN (by kernel_rfl)
theorem ov_r11_t(hs:Sl 133 a l df)(e17:Lk l 17 (.bool true))
  (hN: ∀a',Sl 133 a' ((42,.bool false)::dropL (List.range' 35 8) l) df->N a' w):Rg N Q a w (r_ov 11):=
 reg (l0:=[(17,.bool true)]) [42] (List.range' 35 8) [] hs ⟨e17,trivial⟩ hN (by kernel_rfl)
theorem ov_r11_f{g12 n g11 ln lc:Nat}{ld:Option Addr}{b41:Bool}(hs:Sl 133 a l df)(e17:Lk l 17 (.bool false))(e12:Lk l 12 (pT g12))(e11:Lk l 11 (pT g11))(l0:Lp 3 (pT g12) (ii (n:Int)) w)(l1:Lp 54 (pT g11) (.slice ld ln lc) w)(h2:decide ((n:Int)<(ln:Int))=b41)
  (hN: ∀a',Sl 133 a' ((42,.bool b41)::dropL (List.range' 35 8) l) df->N a' w):Rg N Q a w (r_ov 11):=
 reg (l0:=[(17,.bool false),(12,pT g12),(11,pT g11)]) [42] (List.range' 35 8) [.val (ii (n:Int)),.val (.slice ld ln lc),.bit b41] hs ⟨e17,e12,e11,trivial⟩ (aI l0.run (aI l1.run (aI h2 hN))) (by kernel_rfl)
theorem ov_r12{g11 ln lc g12 n g45 o45 g16:Nat}{ld:Option Addr}{x:Re}(hs:Sl 133 a l df)(e11:Lk l 11 (pT g11))(e12:Lk l 12 (pT g12))(e16:Lk l 16 (pT g16))(l0:Lp 54 (pT g11) (.slice ld ln lc) w)(l1:Lp 3 (pT g12) (ii (n:Int)) w)(i2:Ix 54 (.slice ld ln lc) (ii (n:Int)) (pF g45 o45))(l3:Lp 110 (pF g45 o45) (.agg x.cs) w)(s4:So 110 g16 0 (.agg x.cs) w x.cs.toList)
  (hN: ∀a',Sl 133 a' (dropL [43,44,45,46] l) df->N a' (w.setCells g16 0 x.cs.toList)):Rg N Q a w (r_ov 12):=
 reg (l0:=[(11,pT g11),(12,pT g12),(16,pT g16)]) [] [43,44,45,46] [.val (.slice ld ln lc),.val (ii (n:Int)),.val (pF g45 o45),.val (.agg x.cs),.sto] hs ⟨e11,e12,e16,trivial⟩ (aI l0.run (aI l1.run (aI (i2 w) (aI l3.run (aI s4 hN))))) (by kernel_rfl)
theorem ov_r13(hs:Sl 133 a l df)
  (hN: ∀a',Sl 133 a' ((17,.bool true)::dropL [17] l) df->N a' w):Rg N Q a w (r_ov 13):=
 reg (l0:=[]) [17] [17] [] hs trivial hN (by kernel_rfl)
theorem ov_r14{g8:Nat}{wk:Bool}(hs:Sl 133 a l df)(e8:Lk l 8 (pT g8))(l0:Lp 4 (pT g8) (.bool wk) w)
  (hN: ∀a',Sl 133 a' ((47,.bool wk)::dropL [47] l) df->N a' w):Rg N Q a w (r_ov 14):=
 reg (l0:=[(8,pT g8)]) [47] [47] [.val (.bool wk)] hs ⟨e8,trivial⟩ (aI l0.run hN) (by kernel_rfl)
theorem ov_r15{C C0:World->Prop}{g5 gw g6 k g53 o53 gr g11 ln lc g12 n g57 o57 g16:Nat}{ld:Option Addr}{x y:Re}{b61:Bool}(hs:Sl 133 a l df)(e5:Lk l 5 (pT g5))(e6:Lk l 6 (pT g6))(e11:Lk l 11 (pT g11))(e12:Lk l 12 (pT g12))(e16:Lk l 16 (pT g16))(c0:C (w.drewN 1))(l1: ∀u,C u->Lp 47 (pT g5) (pT gw) u)(l2: ∀u,C u->Lp 3 (pT g6) (ii (k:Int)) u)(i3:Ix 50 (pF gw 2) (ii (k:Int)) (pF g53 o53))(l4: ∀u,C u->Lp 49 (pF g53 o53) (pT gr) u)(l5: ∀u,C u->Lp 54 (pT g11) (.slice ld ln lc) u)(l6: ∀u,C u->Lp 3 (pT g12) (ii (n:Int)) u)(i7:Ix 54 (.slice ld ln lc) (ii (n:Int)) (pF g57 o57))(l8: ∀u,C u->Lp 110 (pF g57 o57) (.agg x.cs) u)(k9:Cl 40 #[pT gr,.agg x.cs] (w.drewN 1) (.tuple #[.agg y.cs,.bool b61]) C0)(c10: ∀(w1:World),C0 w1->C w1)(s11: ∀(w1:World),C0 w1->So 110 g16 0 (.agg y.cs) w1 y.cs.toList)
  (hN0: ∀a' (w1:World),C0 w1->Sl 133 a' ((17,.bool b61)::dropL (17::List.range' 48 14) l) df->N a' (w1.setCells g16 0 y.cs.toList)):Rg N Q a w (r_ov 15):=
 regZ (l0:=[(5,pT g5),(6,pT g6),(11,pT g11),(12,pT g12),(16,pT g16)]) 11 (.rd 0 (.rd 1 (.rd 2 (.rd 3 (.rd 4 (.rd 5 (.rd 6 (.rd 7 (.rd 8 (.rd 9 (.e1 10 .fin))))))))))) (.e1 11 (.e2 12 (.e2 13 (.e1 14 (.e1 15 .fin)) 14 [.sto] (.e1 13 (.e1 15 .fin))) 13 [.sto] (.e1 12 (.e1 14 (.e1 15 .fin))))) C [17] (17::List.range' 48 14) [.val (pT gw),.val (ii (k:Int)),.val (pF g53 o53),.val (pT gr),.val (.slice ld ln lc),.val (ii (n:Int)),.val (pF g57 o57),.val (.agg x.cs),.ret (.tuple #[.agg y.cs,.bool b61]) C0,.sto] hs ⟨e5,e6,e11,e12,e16,trivial⟩ (aI c0 (aI (fun u hu=>(l1 u hu).run) (aI c0 (aI (fun u hu=>(l2 u hu).run) (aI c0 (aI c0 (aI c0 (aI i3 (aI c0 (aI (fun u hu=>(l4 u hu).run) (aI c0 (aI (fun u hu=>(l5 u hu).run) (aI c0 (aI (fun u hu=>(l6 u hu).run) (aI c0 (aI i7 (aI c0 (aI (fun u hu=>(l8 u hu).run) (aI c0 (aI k9 (fun(w1:World) (hc0:C0 w1)=>(aI (c10 w1 hc0) (aI trivial (aI trivial (aI (aI trivial (aI (aI trivial (aI (s11 w1 hc0) (aI trivial (aI trivial (fun a'=>hN0 a' w1 hc0))))) (aI (s11 w1 hc0) (aI trivial (aI trivial (aI trivial (fun a'=>hN0 a' w1 hc0))))))) (aI trivial (aI trivial (aI (s11 w1 hc0) (aI trivial (aI trivial (fun a'=>hN0 a' w1 hc0))))))))))))))))))))))))))))))) (by kernel_rfl)
theorem ov_r16{g12 n:Nat}(hs:Sl 133 a l df)(e12:Lk l 12 (pT g12))(l0:Lp 3 (pT g12) (ii (n:Int)) w)(h1: -9223372036854775808<=(n:Int)+1/\(n:Int)+1<=9223372036854775807)(s2:So 3 g12 0 (ii ((n:Int)+1)) w [ii ((n:Int)+1)])
  (hN: ∀a',Sl 133 a' (dropL [62,63] l) df->N a' (w.setCells g12 0 [ii ((n:Int)+1)])):Rg N Q a w (r_ov 16):=
 reg (l0:=[(12,pT g12)]) [] [62,63] [.val (ii (n:Int)),.ari,.sto] hs ⟨e12,trivial⟩ (aI l0.run (aI h1 (aI s2 hN))) (by kernel_rfl)
theorem ov_r17{b17:Bool}(hs:Sl 133 a l df)(e17:Lk l 17 (.bool b17))
  (hN: ∀a',Sl 133 a' ((65,.bool (!b17))::dropL [64,65] l) df->N a' w):Rg N Q a w (r_ov 17):=
 reg (l0:=[(17,.bool b17)]) [65] [64,65] [] hs ⟨e17,trivial⟩ hN (by kernel_rfl)
theorem ov_r19{g14 g16:Nat}{dk xk:Dt}{mk mx:Dm}{b18:Bool}{C0:World->Prop}(hs:Sl 133 a l df)(e14:Lk l 14 (pT g14))(e16:Lk l 16 (pT g16))(l0:Lp 31 (pT g14) (.agg (dk.cs mk)) w)(l1:Lp 31 (pT g16) (.agg (xk.cs mx)) w)(k2:Cl 13 #[.agg (dk.cs mk),.agg (xk.cs mx)] w (.bool b18) C0)
  (hN: ∀a' (w1:World),C0 w1->Sl 133 a' ((18,.bool b18)::dropL [18,66,67,68,69] l) df->N a' w1):Rg N Q a w (r_ov 19):=
 reg (l0:=[(14,pT g14),(16,pT g16)]) [18] [18,66,67,68,69] [.val (.agg (dk.cs mk)),.val (.agg (xk.cs mx)),.ret (.bool b18) C0] hs ⟨e14,e16,trivial⟩ (aI l0.run (aI l1.run (aI k2 (fun(w1:World) (hc0:C0 w1)=>(fun a'=>hN a' w1 hc0))))) (by kernel_rfl)
theorem ov_r20{g15 g16:Nat}{dv xv:Dt}{mv mx:Dm}{b19:Bool}{C0:World->Prop}(hs:Sl 133 a l df)(e15:Lk l 15 (pT g15))(e16:Lk l 16 (pT g16))(l0:Lp 31 (pT g15) (.agg (dv.cs mv)) w)(l1:Lp 31 (pF g16 11) (.agg (xv.cs mx)) w)(k2:Cl 13 #[.agg (dv.cs mv),.agg (xv.cs mx)] w (.bool b19) C0)
  (hN: ∀a' (w1:World),C0 w1->Sl 133 a' ((19,.bool b19)::dropL [19,70,71,72,73] l) df->N a' w1):Rg N Q a w (r_ov 20):=
 reg (l0:=[(15,pT g15),(16,pT g16)]) [19] [19,70,71,72,73] [.val (.agg (dv.cs mv)),.val (.agg (xv.cs mx)),.ret (.bool b19) C0] hs ⟨e15,e16,trivial⟩ (aI l0.run (aI l1.run (aI k2 (fun(w1:World) (hc0:C0 w1)=>(fun a'=>hN a' w1 hc0))))) (by kernel_rfl)
theorem ov_r21_t{b19:Bool}(hs:Sl 133 a l df)(e18:Lk l 18 (.bool true))(e19:Lk l 19 (.bool b19))
  (hN: ∀a',Sl 133 a' ((79,.bool (!b19))::dropL [74,75,76,77,78,79] l) df->N a' w):Rg N Q a w (r_ov 21):=
 reg (l0:=[(18,.bool true),(19,.bool b19)]) [79] [74,75,76,77,78,79] [] hs ⟨e18,e19,trivial⟩ hN (by kernel_rfl)
theorem ov_r23{g5 gw g14:Nat}{dk:Dt}{mk:Dm}{C0:World->Prop}(hs:Sl 133 a l df)(e5:Lk l 5 (pT g5))(e14:Lk l 14 (pT g14))(l0:Lp 47 (pT g5) (pT gw) w)(l1:Lp 31 (pT g14) (.agg (dk.cs mk)) w)(k2:Cl 41 #[pT gw,.agg (dk.cs mk)] w (.tuple #[]) C0)
  (hN: ∀a' (w1:World),C0 w1->Sl 133 a' (dropL [80,81,82] l) df->N a' w1):Rg N Q a w (r_ov 23):=
 reg (l0:=[(5,pT g5),(14,pT g14)]) [] [80,81,82] [.val (pT gw),.val (.agg (dk.cs mk)),.ret (.tuple #[]) C0] hs ⟨e5,e14,trivial⟩ (aI l0.run (aI l1.run (aI k2 (fun(w1:World) (hc0:C0 w1)=>(fun a'=>hN a' w1 hc0))))) (by kernel_rfl)
theorem ov_r24{g5 gw g15:Nat}{dv:Dt}{mv:Dm}{C0:World->Prop}(hs:Sl 133 a l df)(e5:Lk l 5 (pT g5))(e15:Lk l 15 (pT g15))(l0:Lp 47 (pT g5) (pT gw) w)(l1:Lp 31 (pT g15) (.agg (dv.cs mv)) w)(k2:Cl 41 #[pT gw,.agg (dv.cs mv)] w (.tuple #[]) C0)
  (hN: ∀a' (w1:World),C0 w1->Sl 133 a' (dropL [83,84,85] l) df->N a' w1):Rg N Q a w (r_ov 24):=
 reg (l0:=[(5,pT g5),(15,pT g15)]) [] [83,84,85] [.val (pT gw),.val (.agg (dv.cs mv)),.ret (.tuple #[]) C0] hs ⟨e5,e15,trivial⟩ (aI l0.run (aI l1.run (aI k2 (fun(w1:World) (hc0:C0 w1)=>(fun a'=>hN a' w1 hc0))))) (by kernel_rfl)
theorem ov_r25_t{g9 g13 tn pt:Nat}{inn tu:Int}{b94:Bool}(hs:Sl 133 a l df)(e9:Lk l 9 (pT g9))(e13:Lk l 13 (pT g13))(l0:Lp 3 (pF g9 26) (ii inn) w)(h1:decide (inn≠0)=true)(l2:Lp 3 (pT g13) (ii (tn:Int)) w)(l3:Lp 3 (pF g9 25) (ii tu) w)(k4: ∀mm,Ca 18 #[ii tu,ii 6] (w.drewN mm) fun e w'=>e=.returned (ii (pt:Int))/\∃m',w'=w.drewN m')(h5:decide ((tn:Int)=(pt:Int))=b94)
  (hN: ∀a' mm,Sl 133 a' ((95,.bool b94)::dropL (List.range' 86 10) l) df->N a' (w.drewN mm)):Rg N Q a w (r_ov 25):=
 regQ (l0:=[(9,pT g9),(13,pT g13)]) [95] (List.range' 86 10) [.val (ii inn),.bit true,.val (ii (tn:Int)),.val (ii tu),.val (ii (pt:Int)),.bit b94] hs ⟨e9,e13,trivial⟩ (aI l0 (aI h1 (aI l2 (aI l3 (aI k4 (aI h5 hN)))))) (by kernel_rfl)
theorem ov_r25_f{g9:Nat}{inn:Int}(hs:Sl 133 a l df)(e9:Lk l 9 (pT g9))(l0:Lp 3 (pF g9 26) (ii inn) w)(h1:decide (inn≠0)=false)
  (hN: ∀a' mm,Sl 133 a' ((95,.bool false)::dropL (List.range' 86 10) l) df->N a' (w.drewN mm)):Rg N Q a w (r_ov 25):=
 regQ (l0:=[(9,pT g9)]) [95] (List.range' 86 10) [.val (ii inn),.bit false] hs ⟨e9,trivial⟩ (aI l0 (aI h1 hN)) (by kernel_rfl)
theorem ov_r26{g5 gw g6 k g9:Nat}{o:Sp}{b20:Bool}{C0:World->Prop}(hs:Sl 133 a l df)(e5:Lk l 5 (pT g5))(e6:Lk l 6 (pT g6))(e9:Lk l 9 (pT g9))(l0:Lp 47 (pT g5) (pT gw) w)(l1:Lp 3 (pT g6) (ii (k:Int)) w)(l2:Lp 59 (pT g9) (.agg o.cs) w)(k3:Cl 42 #[pT gw,ii (k:Int),.agg o.cs] w (.bool b20) C0)
  (hN: ∀a' (w1:World),C0 w1->Sl 133 a' ((20,.bool b20)::dropL [20,96,97,98,99] l) df->N a' w1):Rg N Q a w (r_ov 26):=
 reg (l0:=[(5,pT g5),(6,pT g6),(9,pT g9)]) [20] [20,96,97,98,99] [.val (pT gw),.val (ii (k:Int)),.val (.agg o.cs),.ret (.bool b20) C0] hs ⟨e5,e6,e9,trivial⟩ (aI l0.run (aI l1.run (aI l2.run (aI k3 (fun(w1:World) (hc0:C0 w1)=>(fun a'=>hN a' w1 hc0)))))) (by kernel_rfl)
theorem ov_r27{b20:Bool}(hs:Sl 133 a l df)(e20:Lk l 20 (.bool b20))
  (hN: ∀a',Sl 133 a' ((101,.bool (!b20))::dropL [100,101] l) df->N a' w):Rg N Q a w (r_ov 27):=
 reg (l0:=[(20,.bool b20)]) [101] [100,101] [] hs ⟨e20,trivial⟩ hN (by kernel_rfl)
theorem ov_r29{g13 tn:Nat}(hs:Sl 133 a l df)(e13:Lk l 13 (pT g13))(l0:Lp 3 (pT g13) (ii (tn:Int)) w)(h1: -9223372036854775808<=(tn:Int)+1/\(tn:Int)+1<=9223372036854775807)(s2:So 3 g13 0 (ii ((tn:Int)+1)) w [ii ((tn:Int)+1)])
  (hN: ∀a',Sl 133 a' (dropL [102,103] l) df->N a' (w.setCells g13 0 [ii ((tn:Int)+1)])):Rg N Q a w (r_ov 29):=
 reg (l0:=[(13,pT g13)]) [] [102,103] [.val (ii (tn:Int)),.ari,.sto] hs ⟨e13,trivial⟩ (aI l0.run (aI h1 (aI s2 hN))) (by kernel_rfl)
theorem ov_r30{g13 tn g9 pl:Nat}{lv:Int}{b108:Bool}(hs:Sl 133 a l df)(e13:Lk l 13 (pT g13))(e9:Lk l 9 (pT g9))(l0:Lp 3 (pT g13) (ii (tn:Int)) w)(l1:Lp 3 (pF g9 24) (ii lv) w)(k2: ∀mm,Ca 18 #[ii lv,ii 9] (w.drewN mm) fun e w'=>e=.returned (ii (pl:Int))/\∃m',w'=w.drewN m')(h3:decide ((tn:Int)=(pl:Int))=b108)
  (hN: ∀a' mm,Sl 133 a' ((108,.bool b108)::dropL [104,105,106,107,108] l) df->N a' (w.drewN mm)):Rg N Q a w (r_ov 30):=
 regQ (l0:=[(13,pT g13),(9,pT g9)]) [108] [104,105,106,107,108] [.val (ii (tn:Int)),.val (ii lv),.val (ii (pl:Int)),.bit b108] hs ⟨e13,e9,trivial⟩ (aI l0 (aI l1 (aI k2 (aI h3 hN)))) (by kernel_rfl)
theorem ov_r31{g10:Nat}(hs:Sl 133 a l df)(e10:Lk l 10 (pT g10))(s0:So 4 g10 0 (.bool true) w [.bool true])
  (hN: ∀a',Sl 133 a' (dropL [] l) df->N a' (w.setCells g10 0 [.bool true])):Rg N Q a w (r_ov 31):=
 reg (l0:=[(10,pT g10)]) [] [] [.sto] hs ⟨e10,trivial⟩ (aI s0 hN) (by kernel_rfl)
theorem ov_r32{g12 n g11 ln lc:Nat}{ld:Option Addr}{b112:Bool}(hs:Sl 133 a l df)(e12:Lk l 12 (pT g12))(e11:Lk l 11 (pT g11))(l0:Lp 3 (pT g12) (ii (n:Int)) w)(l1:Lp 54 (pT g11) (.slice ld ln lc) w)(h2:decide ((n:Int)<(ln:Int))=b112)
  (hN: ∀a',Sl 133 a' ((112,.bool b112)::dropL [109,110,111,112] l) df->N a' w):Rg N Q a w (r_ov 32):=
 reg (l0:=[(12,pT g12),(11,pT g11)]) [112] [109,110,111,112] [.val (ii (n:Int)),.val (.slice ld ln lc),.bit b112] hs ⟨e12,e11,trivial⟩ (aI l0.run (aI l1.run (aI h2 hN))) (by kernel_rfl)
theorem ov_r33{g12 n:Nat}(hs:Sl 133 a l df)(e12:Lk l 12 (pT g12))(l0:Lp 3 (pT g12) (ii (n:Int)) w)(h1: -9223372036854775808<=(n:Int)+1/\(n:Int)+1<=9223372036854775807)(s2:So 3 g12 0 (ii ((n:Int)+1)) w [ii ((n:Int)+1)])
  (hN: ∀a',Sl 133 a' (dropL [113,114] l) df->N a' (w.setCells g12 0 [ii ((n:Int)+1)])):Rg N Q a w (r_ov 33):=
 reg (l0:=[(12,pT g12)]) [] [113,114] [.val (ii (n:Int)),.ari,.sto] hs ⟨e12,trivial⟩ (aI l0.run (aI h1 (aI s2 hN))) (by kernel_rfl)
theorem ov_r34{g8:Nat}{wk:Bool}(hs:Sl 133 a l df)(e8:Lk l 8 (pT g8))(l0:Lp 4 (pT g8) (.bool wk) w)
  (hN: ∀a',Sl 133 a' ((21,.bool (!wk))::dropL [21,115,116] l) df->N a' w):Rg N Q a w (r_ov 34):=
 reg (l0:=[(8,pT g8)]) [21] [21,115,116] [.val (.bool wk)] hs ⟨e8,trivial⟩ (aI l0.run hN) (by kernel_rfl)
theorem ov_r35{g8:Nat}{wk:Bool}(hs:Sl 133 a l df)(e8:Lk l 8 (pT g8))(l0:Lp 4 (pT g8) (.bool wk) w)
  (hN: ∀a',Sl 133 a' ((117,.bool wk)::dropL [117] l) df->N a' w):Rg N Q a w (r_ov 35):=
 reg (l0:=[(8,pT g8)]) [117] [117] [.val (.bool wk)] hs ⟨e8,trivial⟩ (aI l0.run hN) (by kernel_rfl)
theorem ov_r36{C C0:World->Prop}{g5 gw g6 k g123 o123 gr g11 ln lc g12 n g127 o127:Nat}{ld:Option Addr}{x y:Re}{b61:Bool}(hs:Sl 133 a l df)(e5:Lk l 5 (pT g5))(e6:Lk l 6 (pT g6))(e11:Lk l 11 (pT g11))(e12:Lk l 12 (pT g12))(c0:C (w.drewN 1))(l1: ∀u,C u->Lp 47 (pT g5) (pT gw) u)(l2: ∀u,C u->Lp 3 (pT g6) (ii (k:Int)) u)(i3:Ix 50 (pF gw 2) (ii (k:Int)) (pF g123 o123))(l4: ∀u,C u->Lp 49 (pF g123 o123) (pT gr) u)(l5: ∀u,C u->Lp 54 (pT g11) (.slice ld ln lc) u)(l6: ∀u,C u->Lp 3 (pT g12) (ii (n:Int)) u)(i7:Ix 54 (.slice ld ln lc) (ii (n:Int)) (pF g127 o127))(l8: ∀u,C u->Lp 110 (pF g127 o127) (.agg x.cs) u)(k9:Cl 40 #[pT gr,.agg x.cs] (w.drewN 1) (.tuple #[.agg y.cs,.bool b61]) C0)(c10: ∀(w1:World),C0 w1->C w1)
  (hN: ∀a' (w1:World),C0 w1->Sl 133 a' ((21,.bool b61)::dropL (21::List.range' 118 14) l) df->N a' w1):Rg N Q a w (r_ov 36):=
 regP (l0:=[(5,pT g5),(6,pT g6),(11,pT g11),(12,pT g12)]) 14 [(true,0),(true,1),(true,2),(true,3),(true,4),(true,5),(true,6),(true,7),(true,8),(true,9),(false,10),(true,11),(true,12),(true,13)] C [21] (21::List.range' 118 14) [.val (pT gw),.val (ii (k:Int)),.val (pF g123 o123),.val (pT gr),.val (.slice ld ln lc),.val (ii (n:Int)),.val (pF g127 o127),.val (.agg x.cs),.ret (.tuple #[.agg y.cs,.bool b61]) C0] hs ⟨e5,e6,e11,e12,trivial⟩ (aI c0 (aI (fun u hu=>(l1 u hu).run) (aI c0 (aI (fun u hu=>(l2 u hu).run) (aI c0 (aI c0 (aI c0 (aI i3 (aI c0 (aI (fun u hu=>(l4 u hu).run) (aI c0 (aI (fun u hu=>(l5 u hu).run) (aI c0 (aI (fun u hu=>(l6 u hu).run) (aI c0 (aI i7 (aI c0 (aI (fun u hu=>(l8 u hu).run) (aI c0 (aI k9 (fun(w1:World) (hc0:C0 w1)=>(aI (c10 w1 hc0) (aI (c10 w1 hc0) (aI (c10 w1 hc0) (aI (c10 w1 hc0) (fun a'=>hN a' w1 hc0)))))))))))))))))))))))))) (by kernel_rfl)
theorem ov_r37{b21:Bool}(hs:Sl 133 a l df)(e21:Lk l 21 (.bool b21))
  (hN: ∀a',Sl 133 a' ((132,.bool b21)::dropL [132] l) df->N a' w):Rg N Q a w (r_ov 37):=
 reg (l0:=[(21,.bool b21)]) [132] [132] [] hs ⟨e21,trivial⟩ hN (by kernel_rfl)
theorem ov_r39{g10:Nat}(hs:Sl 133 a l df)(e10:Lk l 10 (pT g10))(s0:So 4 g10 0 (.bool true) w [.bool true])
  (hN: ∀a',Sl 133 a' (dropL [] l) df->N a' (w.setCells g10 0 [.bool true])):Rg N Q a w (r_ov 39):=
 reg (l0:=[(10,pT g10)]) [] [] [.sto] hs ⟨e10,trivial⟩ (aI s0 hN) (by kernel_rfl)
noncomputable def r_pl9 (n:Nat):Code:=((Tryd.f4.body.bind (findR n)).getD .skip)
noncomputable def pl9L0:Code:=(.seq (.seq (r_pl9 17) (.cond (.tmp 85) .skip (.exit 2))) (.seq (.block 3 (.seq (r_pl9 19) (.seq (r_pl9 20) (.seq (r_pl9 21) (.cond (.tmp 101) (.seq (r_pl9 22) .ret) .skip))))) (r_pl9 18)))
noncomputable def pl9L1:Code:=(.seq (.seq (r_pl9 4) (.cond (.tmp 13) .skip (.exit 0))) (.seq (.block 1 (.seq (r_pl9 6) (.seq (r_pl9 7) (.seq (.seq (r_pl9 8) (.cond (.tmp 35) (.seq (r_pl9 9) .ret) .skip)) (.seq (r_pl9 10) (.seq (r_pl9 11) (.seq (r_pl9 12) (.cond (.tmp 75) (.seq (r_pl9 13) .ret) .skip)))))))) (r_pl9 5)))
noncomputable def pl9Body:Code:=(.seq (r_pl9 0) (.seq (r_pl9 1) (.seq (r_pl9 2) (.seq (.seq (r_pl9 3) (.block 0 (.loop pl9L1))) (.seq (.seq (r_pl9 14) (.cond (.tmp 77) (.seq (r_pl9 15) .ret) .skip)) (.seq (.seq (r_pl9 16) (.block 2 (.loop pl9L0))) (.seq (r_pl9 23) .ret)))))))
theorem pl9_body:Tryd.f4.body=some pl9Body:=by kernel_rfl
theorem pl9_r0(hs:Sl 102 a l df)
  (hN: ∀a',Sl 102 a' ((2,.bool false)::dropL [2] l) df->N a' w):Rg N Q a w (r_pl9 0):=
 reg (l0:=[]) [2] [2] [] hs trivial hN (by kernel_rfl)
theorem pl9_r1{b3:Bool}{C0:World->Prop}(hs:Sl 102 a l df)(k0:Cl 6 #[] w (.bool b3) C0)
  (hN: ∀a' (w1:World),C0 w1->Sl 102 a' ((3,.bool b3)::dropL [3,9] l) df->N a' w1):Rg N Q a w (r_pl9 1):=
 reg (l0:=[]) [3] [3,9] [.ret (.bool b3) C0] hs trivial (aI k0 (fun(w1:World) (hc0:C0 w1)=>(fun a'=>hN a' w1 hc0))) (by kernel_rfl)
theorem pl9_r2(hs:Sl 102 a l df)
  (hN: ∀a',Sl 102 a' ((4,pT w.heap.size)::dropL [4,10,11] l) df->N a' (w.alloc (.cells #[.pointer none,.pointer none,.pointer none,.pointer none,.nilFunc,.nilFunc,.nilFunc,.nilFunc,.slice none 0 0] 53))):Rg N Q a w (r_pl9 2):=
 reg (l0:=[]) [4] [4,10,11] [.raw,.raw] hs trivial hN (by kernel_rfl)
theorem pl9_r3(hs:Sl 102 a l df)
  (hN: ∀a',Sl 102 a' ((5,ii 0)::dropL [5] l) df->N a' w):Rg N Q a w (r_pl9 3):=
 reg (l0:=[]) [5] [5] [] hs trivial hN (by kernel_rfl)
theorem pl9_r4{k:Nat}{b13:Bool}(hs:Sl 102 a l df)(e5:Lk l 5 (ii (k:Int)))(h0:decide ((k:Int)<2)=b13)
  (hN: ∀a',Sl 102 a' ((13,.bool b13)::dropL [12,13] l) df->N a' w):Rg N Q a w (r_pl9 4):=
 reg (l0:=[(5,ii (k:Int))]) [13] [12,13] [.bit b13] hs ⟨e5,trivial⟩ (aI h0 hN) (by kernel_rfl)
theorem pl9_r5{k:Nat}(hs:Sl 102 a l df)(e5:Lk l 5 (ii (k:Int)))(h0: -9223372036854775808<=(k:Int)+1/\(k:Int)+1<=9223372036854775807)
  (hN: ∀a',Sl 102 a' ((5,ii ((k:Int)+1))::dropL [5,14,15] l) df->N a' w):Rg N Q a w (r_pl9 5):=
 reg (l0:=[(5,ii (k:Int))]) [5] [5,14,15] [.ari] hs ⟨e5,trivial⟩ (aI h0 hN) (by kernel_rfl)
theorem pl9_r6{C:World->Prop}{gw k g21 o21:Nat}{C0:Nat->World->Prop}(hs:Sl 102 a l df)(e4:Lk l 4 (pT gw))(e5:Lk l 5 (ii (k:Int)))(c0:C (w.drewN 1))(k1:Ca 7 #[] (w.drewN 1) fun e w'=> ∃x1:Nat,e=.returned (pT x1)/\C0 x1 w')(c2: ∀(x1:Nat) (w1:World),C0 x1 w1->C w1)(i3:Ix 48 (pT gw) (ii (k:Int)) (pF g21 o21))(s4: ∀(x1:Nat) (w1:World),C0 x1 w1->So 24 g21 o21 (pT x1) w1 [pT x1])
  (hN: ∀a' (x1:Nat) (w1:World),C0 x1 w1->Sl 102 a' (dropL [16,17,18,19,20,21] l) df->N a' (w1.setCells g21 o21 [pT x1])):Rg N Q a w (r_pl9 6):=
 regP (l0:=[(4,pT gw),(5,ii (k:Int))]) 6 [(true,0),(true,1),(true,3),(true,4),(false,2),(true,5)] C [] [16,17,18,19,20,21] [.ex (Nat) (fun x1=>pT x1) C0,.val (pF g21 o21),.sto] hs ⟨e4,e5,trivial⟩ (aI c0 (aI c0 (aI c0 (aI c0 (aI c0 (aI k1 (fun(x1:Nat) (w1:World) (hc0:C0 x1 w1)=>(aI (c2 x1 w1 hc0) (aI i3 (aI (c2 x1 w1 hc0) (aI (s4 x1 w1 hc0) (fun a'=>hN a' x1 w1 hc0)))))))))))) (by kernel_rfl)
theorem pl9_r7{gw k g28 o28:Nat}(hs:Sl 102 a l df)(e4:Lk l 4 (pT gw))(e5:Lk l 5 (ii (k:Int)))(i0:Ix 50 (pF gw 2) (ii (k:Int)) (pF g28 o28))(s1:So 49 g28 o28 (pT w.heap.size) (w.alloc (.cells #[.slice none 0 0,ii 0] 56)) [pT w.heap.size])
  (hN: ∀a',Sl 102 a' (dropL (List.range' 22 7) l) df->N a' ((w.alloc (.cells #[.slice none 0 0,ii 0] 56)).setCells g28 o28 [pT w.heap.size])):Rg N Q a w (r_pl9 7):=
 reg (l0:=[(4,pT gw),(5,ii (k:Int))]) [] (List.range' 22 7) [.raw,.raw,.val (pF g28 o28),.sto] hs ⟨e4,e5,trivial⟩ (aI (i0 (w.alloc (.cells #[.slice none 0 0,ii 0] 56))) (aI s1 hN)) (by kernel_rfl)
theorem pl9_r8{gw k g33 o33 gm:Nat}{b35:Bool}(hs:Sl 102 a l df)(e4:Lk l 4 (pT gw))(e5:Lk l 5 (ii (k:Int)))(i0:Ix 48 (pT gw) (ii (k:Int)) (pF g33 o33))(l1:Lp 24 (pF g33 o33) (pT gm) w)(h2: ∀w,(binOp .eql 24 (pT gm) (.pointer none)).run Tryd.prog w=.ok (.bool b35) w)
  (hN: ∀a',Sl 102 a' ((35,.bool b35)::dropL (List.range' 29 7) l) df->N a' w):Rg N Q a w (r_pl9 8):=
 reg (l0:=[(4,pT gw),(5,ii (k:Int))]) [35] (List.range' 29 7) [.val (pF g33 o33),.val (pT gm),.bin (.bool b35)] hs ⟨e4,e5,trivial⟩ (aI (i0 w) (aI l1.run (aI (bin_run (x:=.tmp 34) (y:=.const (.pointer none)) (by kernel_rfl) (h2 w)) hN))) (by kernel_rfl)
theorem pl9_r10{C:World->Prop}{gw k g42 o42 gm g47 o47:Nat}{C0:Nat->World->Prop}(hs:Sl 102 a l df)(e4:Lk l 4 (pT gw))(e5:Lk l 5 (ii (k:Int)))(c0:C (w.drewN 1))(i1:Ix 48 (pT gw) (ii (k:Int)) (pF g42 o42))(l2: ∀u,C u->Lp 24 (pF g42 o42) (pT gm) u)(k3:Ca 15 #[pT gm] (w.drewN 1) fun e w'=> ∃x1:Nat,e=.returned (.func (.func 30) #[] #[pT x1])/\C0 x1 w')(c4: ∀(x1:Nat) (w1:World),C0 x1 w1->C w1)(i5:Ix 51 (pF gw 4) (ii (k:Int)) (pF g47 o47))(s6: ∀(x1:Nat) (w1:World),C0 x1 w1->So 41 g47 o47 (.func (.func 30) #[] #[pT x1]) w1 [.func (.func 30) #[] #[pT x1]])
  (hN: ∀a' (x1:Nat) (w1:World),C0 x1 w1->Sl 102 a' (dropL (List.range' 36 12) l) df->N a' (w1.setCells g47 o47 [.func (.func 30) #[] #[pT x1]])):Rg N Q a w (r_pl9 10):=
 regP (l0:=[(4,pT gw),(5,ii (k:Int))]) 12 [(true,0),(true,1),(true,2),(true,3),(true,4),(true,5),(true,6),(true,7),(true,9),(true,10),(false,8),(true,11)] C [] (List.range' 36 12) [.val (pF g42 o42),.val (pT gm),.ex (Nat) (fun x1=>.func (.func 30) #[] #[pT x1]) C0,.val (pF g47 o47),.sto] hs ⟨e4,e5,trivial⟩ (aI c0 (aI c0 (aI c0 (aI c0 (aI c0 (aI c0 (aI c0 (aI i1 (aI c0 (aI (fun u hu=>(l2 u hu).run) (aI c0 (aI c0 (aI c0 (aI k3 (fun(x1:Nat) (w1:World) (hc0:C0 x1 w1)=>(aI (c4 x1 w1 hc0) (aI i5 (aI (c4 x1 w1 hc0) (aI (s6 x1 w1 hc0) (fun a'=>hN a' x1 w1 hc0)))))))))))))))))))) (by kernel_rfl)
theorem pl9_r11{C:World->Prop}{gw k g54 o54 gm g59 o59:Nat}{C0:Nat->World->Prop}(hs:Sl 102 a l df)(e4:Lk l 4 (pT gw))(e5:Lk l 5 (ii (k:Int)))(c0:C (w.drewN 1))(i1:Ix 48 (pT gw) (ii (k:Int)) (pF g54 o54))(l2: ∀u,C u->Lp 24 (pF g54 o54) (pT gm) u)(k3:Ca 12 #[pT gm] (w.drewN 1) fun e w'=> ∃x1:Nat,e=.returned (.func (.func 27) #[] #[pT x1])/\C0 x1 w')(c4: ∀(x1:Nat) (w1:World),C0 x1 w1->C w1)(i5:Ix 51 (pF gw 6) (ii (k:Int)) (pF g59 o59))(s6: ∀(x1:Nat) (w1:World),C0 x1 w1->So 41 g59 o59 (.func (.func 27) #[] #[pT x1]) w1 [.func (.func 27) #[] #[pT x1]])
  (hN: ∀a' (x1:Nat) (w1:World),C0 x1 w1->Sl 102 a' (dropL (List.range' 48 12) l) df->N a' (w1.setCells g59 o59 [.func (.func 27) #[] #[pT x1]])):Rg N Q a w (r_pl9 11):=
 regP (l0:=[(4,pT gw),(5,ii (k:Int))]) 12 [(true,0),(true,1),(true,2),(true,3),(true,4),(true,5),(true,6),(true,7),(true,9),(true,10),(false,8),(true,11)] C [] (List.range' 48 12) [.val (pF g54 o54),.val (pT gm),.ex (Nat) (fun x1=>.func (.func 27) #[] #[pT x1]) C0,.val (pF g59 o59),.sto] hs ⟨e4,e5,trivial⟩ (aI c0 (aI c0 (aI c0 (aI c0 (aI c0 (aI c0 (aI c0 (aI i1 (aI c0 (aI (fun u hu=>(l2 u hu).run) (aI c0 (aI c0 (aI c0 (aI k3 (fun(x1:Nat) (w1:World) (hc0:C0 x1 w1)=>(aI (c4 x1 w1 hc0) (aI i5 (aI (c4 x1 w1 hc0) (aI (s6 x1 w1 hc0) (fun a'=>hN a' x1 w1 hc0)))))))))))))))))))) (by kernel_rfl)
theorem pl9_r12_f{gw k g64 o64 ga g72 o72 gk:Nat}{b74:Bool}(hs:Sl 102 a l df)(e4:Lk l 4 (pT gw))(e5:Lk l 5 (ii (k:Int)))(i0:Ix 51 (pF gw 4) (ii (k:Int)) (pF g64 o64))(l1:Lp 41 (pF g64 o64) (.func (.func 30) #[] #[pT ga]) w)(h2: ∀w,(binOp .eql 41 (.func (.func 30) #[] #[pT ga]) (.nilFunc)).run Tryd.prog w=.ok (.bool false) w)(i3:Ix 51 (pF gw 6) (ii (k:Int)) (pF g72 o72))(l4:Lp 41 (pF g72 o72) (.func (.func 27) #[] #[pT gk]) w)(h5: ∀w,(binOp .eql 41 (.func (.func 27) #[] #[pT gk]) (.nilFunc)).run Tryd.prog w=.ok (.bool b74) w)
  (hN: ∀a',Sl 102 a' ((75,.bool b74)::dropL (List.range' 60 16) l) df->N a' w):Rg N Q a w (r_pl9 12):=
 reg (l0:=[(4,pT gw),(5,ii (k:Int))]) [75] (List.range' 60 16) [.val (pF g64 o64),.val (.func (.func 30) #[] #[pT ga]),.bin (.bool false),.val (pF g72 o72),.val (.func (.func 27) #[] #[pT gk]),.bin (.bool b74)] hs ⟨e4,e5,trivial⟩ (aI (i0 w) (aI l1.run (aI (bin_run (x:=.tmp 65) (y:=.const (.nilFunc)) (by kernel_rfl) (h2 w)) (aI (i3 w) (aI l4.run (aI (bin_run (x:=.tmp 73) (y:=.const (.nilFunc)) (by kernel_rfl) (h5 w)) hN)))))) (by kernel_rfl)
theorem pl9_r14{b3:Bool}(hs:Sl 102 a l df)(e3:Lk l 3 (.bool b3))
  (hN: ∀a',Sl 102 a' ((77,.bool (!b3))::dropL [76,77] l) df->N a' w):Rg N Q a w (r_pl9 14):=
 reg (l0:=[(3,.bool b3)]) [77] [76,77] [] hs ⟨e3,trivial⟩ hN (by kernel_rfl)
theorem pl9_r16(hs:Sl 102 a l df)
  (hN: ∀a',Sl 102 a' ((6,ii 0)::dropL [6] l) df->N a' w):Rg N Q a w (r_pl9 16):=
 reg (l0:=[]) [6] [6] [] hs trivial hN (by kernel_rfl)
theorem pl9_r17_t{i sn sc:Nat}{sd:Option Addr}{b84:Bool}(hs:Sl 102 a l df)(e6:Lk l 6 (ii (i:Int)))(e0:Lk l 0 (.slice sd sn sc))(h0:decide ((i:Int)<(sn:Int))=true)(h1:decide ((i:Int)<150)=b84)
  (hN: ∀a',Sl 102 a' ((85,.bool b84)::dropL (List.range' 78 8) l) df->N a' w):Rg N Q a w (r_pl9 17):=
 reg (l0:=[(6,ii (i:Int)),(0,.slice sd sn sc)]) [85] (List.range' 78 8) [.bit true,.bit b84] hs ⟨e6,e0,trivial⟩ (aI h0 (aI h1 hN)) (by kernel_rfl)
theorem pl9_r17_f{i sn sc:Nat}{sd:Option Addr}(hs:Sl 102 a l df)(e6:Lk l 6 (ii (i:Int)))(e0:Lk l 0 (.slice sd sn sc))(h0:decide ((i:Int)<(sn:Int))=false)
  (hN: ∀a',Sl 102 a' ((85,.bool false)::dropL (List.range' 78 8) l) df->N a' w):Rg N Q a w (r_pl9 17):=
 reg (l0:=[(6,ii (i:Int)),(0,.slice sd sn sc)]) [85] (List.range' 78 8) [.bit false] hs ⟨e6,e0,trivial⟩ (aI h0 hN) (by kernel_rfl)
theorem pl9_r18{i:Nat}(hs:Sl 102 a l df)(e6:Lk l 6 (ii (i:Int)))(h0: -9223372036854775808<=(i:Int)+1/\(i:Int)+1<=9223372036854775807)
  (hN: ∀a',Sl 102 a' ((6,ii ((i:Int)+1))::dropL [6,86,87] l) df->N a' w):Rg N Q a w (r_pl9 18):=
 reg (l0:=[(6,ii (i:Int))]) [6] [6,86,87] [.ari] hs ⟨e6,trivial⟩ (aI h0 hN) (by kernel_rfl)
theorem pl9_r19{gw sn sc i g91 o91:Nat}{sd:Option Addr}{o:Sp}{b7:Bool}{C0:World->Prop}(hs:Sl 102 a l df)(e4:Lk l 4 (pT gw))(e0:Lk l 0 (.slice sd sn sc))(e6:Lk l 6 (ii (i:Int)))(i0:Ix 46 (.slice sd sn sc) (ii (i:Int)) (pF g91 o91))(l1:Lp 59 (pF g91 o91) (.agg o.cs) w)(k2:Cl 16 #[pT gw,.agg o.cs] w (.bool b7) C0)
  (hN: ∀a' (w1:World),C0 w1->Sl 102 a' ((7,.bool b7)::dropL (7::List.range' 88 6) l) df->N a' w1):Rg N Q a w (r_pl9 19):=
 reg (l0:=[(4,pT gw),(0,.slice sd sn sc),(6,ii (i:Int))]) [7] (7::List.range' 88 6) [.val (pF g91 o91),.val (.agg o.cs),.ret (.bool b7) C0] hs ⟨e4,e0,e6,trivial⟩ (aI (i0 w) (aI l1.run (aI k2 (fun(w1:World) (hc0:C0 w1)=>(fun a'=>hN a' w1 hc0))))) (by kernel_rfl)
theorem pl9_r20{gw:Nat}{b8:Bool}{C0:World->Prop}(hs:Sl 102 a l df)(e4:Lk l 4 (pT gw))(k0:Cl 17 #[pT gw] w (.bool b8) C0)
  (hN: ∀a' (w1:World),C0 w1->Sl 102 a' ((8,.bool b8)::dropL [8,94,95] l) df->N a' w1):Rg N Q a w (r_pl9 20):=
 reg (l0:=[(4,pT gw)]) [8] [8,94,95] [.ret (.bool b8) C0] hs ⟨e4,trivial⟩ (aI k0 (fun(w1:World) (hc0:C0 w1)=>(fun a'=>hN a' w1 hc0))) (by kernel_rfl)
theorem pl9_r21_t{b8:Bool}(hs:Sl 102 a l df)(e7:Lk l 7 (.bool true))(e8:Lk l 8 (.bool b8))
  (hN: ∀a',Sl 102 a' ((101,.bool (!b8))::dropL [96,97,98,99,100,101] l) df->N a' w):Rg N Q a w (r_pl9 21):=
 reg (l0:=[(7,.bool true),(8,.bool b8)]) [101] [96,97,98,99,100,101] [] hs ⟨e7,e8,trivial⟩ hN (by kernel_rfl)
theorem pl9_r23(hs:Sl 102 a l df)
  (hN: ∀a',Sl 102 a' ((2,.bool true)::dropL [2] l) df->N a' w):Rg N Q a w (r_pl9 23):=
 reg (l0:=[]) [2] [2] [] hs trivial hN (by kernel_rfl)
end Go.Proofs.YtlhfickniegooaaDoor
