/-
   Written by an AI agent.
-/
import Derived.Test.YtbjegfpfmnleeaaGreatDoorProg
import Derived.Test.YtbjegfpfmnleeaaGreatDoorPk04
import Derived.Test.YtbjegfpfmnleeaaGreatDoorPk14
import Derived.Test.YtbjegfpfmnleeaaGreatDoorPk15
namespace Go.Proofs.YtbjegfpfmnleeaaGreatDoor
open Go.RowKit Go.Sort
set_option maxRecDepth 100000
variable {a:Act} {w:World} {df:List Deferred} {N:Act->World->Prop} {Q:Exit->Act->World->Prop} {l:List (Nat×Value)}
noncomputable def r_zi (n:Nat):Code:=((Tryz.f16.body.bind (findR n)).getD .skip)
noncomputable def ziL0:Code:=(.seq (.seq (r_zi 4) (.cond (.tmp 14) .skip (.exit 0))) (.seq (.block 1 (.seq (r_zi 6) (.cond (.tmp 25) (.seq (r_zi 7) .ret) .skip))) (r_zi 5)))
noncomputable def ziBody:Code:=(.seq (r_zi 0) (.seq (.seq (r_zi 1) (.cond (.tmp 10) (.seq (r_zi 2) .ret) .skip)) (.seq (.seq (r_zi 3) (.block 0 (.loop ziL0))) (.seq (r_zi 8) .ret))))
theorem zi_body:Tryz.f16.body=some ziBody:=by kernel_rfl
theorem zi_r0(hs:Sl 26 a l df)
  (hN: ∀a',Sl 26 a' ((4,.bool false)::dropL [4] l) df->N a' w):Rg N Q a w (r_zi 0):=
 reg (l0:=[]) [4] [4] [] hs trivial hN (by kernel_rfl)
theorem zi_r1{sd td:Option Addr}{sn sc tn tc:Nat}{b10:Bool}(hs:Sl 26 a l df)(e0:Lk l 0 (.slice sd sn sc))(e1:Lk l 1 (.slice td tn tc))(h0:decide ((sn:Int)≠(tn:Int))=b10)
  (hN: ∀a',Sl 26 a' ((10,.bool b10)::dropL [6,7,8,9,10] l) df->N a' w):Rg N Q a w (r_zi 1):=
 reg (l0:=[(0,.slice sd sn sc),(1,.slice td tn tc)]) [10] [6,7,8,9,10] [.bit b10] hs ⟨e0,e1,trivial⟩ (aI h0 hN) (by kernel_rfl)
theorem zi_r2(hs:Sl 26 a l df)
  (hN: ∀a',Sl 26 a' ((4,.bool false)::dropL [4] l) df->N a' w):Rg N Q a w (r_zi 2):=
 reg (l0:=[]) [4] [4] [] hs trivial hN (by kernel_rfl)
theorem zi_r3(hs:Sl 26 a l df)
  (hN: ∀a',Sl 26 a' ((5,ii 0)::dropL [5] l) df->N a' w):Rg N Q a w (r_zi 3):=
 reg (l0:=[]) [5] [5] [] hs trivial hN (by kernel_rfl)
theorem zi_r4{i sn sc:Nat}{sd:Option Addr}{b14:Bool}(hs:Sl 26 a l df)(e5:Lk l 5 (ii (i:Int)))(e0:Lk l 0 (.slice sd sn sc))(h0:decide ((i:Int)<(sn:Int))=b14)
  (hN: ∀a',Sl 26 a' ((14,.bool b14)::dropL [11,12,13,14] l) df->N a' w):Rg N Q a w (r_zi 4):=
 reg (l0:=[(5,ii (i:Int)),(0,.slice sd sn sc)]) [14] [11,12,13,14] [.bit b14] hs ⟨e5,e0,trivial⟩ (aI h0 hN) (by kernel_rfl)
theorem zi_r5{i:Nat}(hs:Sl 26 a l df)(e5:Lk l 5 (ii (i:Int)))(h0: -9223372036854775808<=(i:Int)+1/\(i:Int)+1<=9223372036854775807)
  (hN: ∀a',Sl 26 a' ((5,ii ((i:Int)+1))::dropL [5,15,16] l) df->N a' w):Rg N Q a w (r_zi 5):=
 reg (l0:=[(5,ii (i:Int))]) [5] [5,15,16] [.ari] hs ⟨e5,trivial⟩ (aI h0 hN) (by kernel_rfl)
theorem zi_r6{sd td:Option Addr}{sn sc i g19 o19 tn tc g23 o23:Nat}{x y:Int}{b25:Bool}(hs:Sl 26 a l df)(e0:Lk l 0 (.slice sd sn sc))(e5:Lk l 5 (ii (i:Int)))(e1:Lk l 1 (.slice td tn tc))(i0:Ix 24 (.slice sd sn sc) (ii (i:Int)) (pF g19 o19))(l1:Lp 3 (pF g19 o19) (ii x) w)(i2:Ix 24 (.slice td tn tc) (ii (i:Int)) (pF g23 o23))(l3:Lp 3 (pF g23 o23) (ii y) w)(h4:decide (x≠y)=b25)
  (hN: ∀a' mm,Sl 26 a' ((25,.bool b25)::dropL (List.range' 17 9) l) df->N a' (w.drewN mm)):Rg N Q a w (r_zi 6):=
 regQ (l0:=[(0,.slice sd sn sc),(5,ii (i:Int)),(1,.slice td tn tc)]) [25] (List.range' 17 9) [.val (pF g19 o19),.val (ii x),.val (pF g23 o23),.val (ii y),.bit b25] hs ⟨e0,e5,e1,trivial⟩ (aI i0 (aI l1 (aI i2 (aI l3 (aI h4 hN))))) (by kernel_rfl)
theorem zi_r7(hs:Sl 26 a l df)
  (hN: ∀a',Sl 26 a' ((4,.bool false)::dropL [4] l) df->N a' w):Rg N Q a w (r_zi 7):=
 reg (l0:=[]) [4] [4] [] hs trivial hN (by kernel_rfl)
theorem zi_r8(hs:Sl 26 a l df)
  (hN: ∀a',Sl 26 a' ((4,.bool true)::dropL [4] l) df->N a' w):Rg N Q a w (r_zi 8):=
 reg (l0:=[]) [4] [4] [] hs trivial hN (by kernel_rfl)
noncomputable def r_zt (n:Nat):Code:=((Tryz.f23.body.bind (findR n)).getD .skip)
noncomputable def ztL0:Code:=(.seq (.seq (r_zt 2) (.cond (.tmp 9) .skip (.exit 0))) (.seq (.block 1 (.seq (r_zt 4) (.cond (.tmp 17) (.seq (r_zt 5) .ret) .skip))) (r_zt 3)))
noncomputable def ztBody:Code:=(.seq (r_zt 0) (.seq (.seq (r_zt 1) (.block 0 (.loop ztL0))) (.seq (r_zt 6) .ret)))
theorem zt_body:Tryz.f23.body=some ztBody:=by kernel_rfl
theorem zt_r0(hs:Sl 18 a l df)
  (hN: ∀a',Sl 18 a' ((4,.bool false)::dropL [4] l) df->N a' w):Rg N Q a w (r_zt 0):=
 reg (l0:=[]) [4] [4] [] hs trivial hN (by kernel_rfl)
theorem zt_r1(hs:Sl 18 a l df)
  (hN: ∀a',Sl 18 a' ((5,ii 0)::dropL [5] l) df->N a' w):Rg N Q a w (r_zt 1):=
 reg (l0:=[]) [5] [5] [] hs trivial hN (by kernel_rfl)
theorem zt_r2{i sn sc:Nat}{sd:Option Addr}{b9:Bool}(hs:Sl 18 a l df)(e5:Lk l 5 (ii (i:Int)))(e0:Lk l 0 (.slice sd sn sc))(h0:decide ((i:Int)<(sn:Int))=b9)
  (hN: ∀a',Sl 18 a' ((9,.bool b9)::dropL [6,7,8,9] l) df->N a' w):Rg N Q a w (r_zt 2):=
 reg (l0:=[(5,ii (i:Int)),(0,.slice sd sn sc)]) [9] [6,7,8,9] [.bit b9] hs ⟨e5,e0,trivial⟩ (aI h0 hN) (by kernel_rfl)
theorem zt_r3{i:Nat}(hs:Sl 18 a l df)(e5:Lk l 5 (ii (i:Int)))(h0: -9223372036854775808<=(i:Int)+1/\(i:Int)+1<=9223372036854775807)
  (hN: ∀a',Sl 18 a' ((5,ii ((i:Int)+1))::dropL [5,10,11] l) df->N a' w):Rg N Q a w (r_zt 3):=
 reg (l0:=[(5,ii (i:Int))]) [5] [5,10,11] [.ari] hs ⟨e5,trivial⟩ (aI h0 hN) (by kernel_rfl)
theorem zt_r4{sd:Option Addr}{sn sc i g14 o14:Nat}{x n:Int}{b17:Bool}(hs:Sl 18 a l df)(e0:Lk l 0 (.slice sd sn sc))(e5:Lk l 5 (ii (i:Int)))(e1:Lk l 1 (ii n))(i0:Ix 24 (.slice sd sn sc) (ii (i:Int)) (pF g14 o14))(l1:Lp 3 (pF g14 o14) (ii x) w)(h2:decide (x=n)=b17)
  (hN: ∀a',Sl 18 a' ((17,.bool b17)::dropL [12,13,14,15,16,17] l) df->N a' w):Rg N Q a w (r_zt 4):=
 reg (l0:=[(0,.slice sd sn sc),(5,ii (i:Int)),(1,ii n)]) [17] [12,13,14,15,16,17] [.val (pF g14 o14),.val (ii x),.bit b17] hs ⟨e0,e5,e1,trivial⟩ (aI (i0 w) (aI l1.run (aI h2 hN))) (by kernel_rfl)
theorem zt_r5(hs:Sl 18 a l df)
  (hN: ∀a',Sl 18 a' ((4,.bool true)::dropL [4] l) df->N a' w):Rg N Q a w (r_zt 5):=
 reg (l0:=[]) [4] [4] [] hs trivial hN (by kernel_rfl)
theorem zt_r6(hs:Sl 18 a l df)
  (hN: ∀a',Sl 18 a' ((4,.bool false)::dropL [4] l) df->N a' w):Rg N Q a w (r_zt 6):=
 reg (l0:=[]) [4] [4] [] hs trivial hN (by kernel_rfl)
noncomputable def r_zo (n:Nat):Code:=((Tryz.f8.body.bind (findR n)).getD .skip)
noncomputable def zoL0:Code:=(.seq (.seq (r_zo 5) (.cond (.tmp 20) .skip (.exit 0))) (.seq (.block 1 (r_zo 7)) (r_zo 6)))
noncomputable def zoBody:Code:=(.seq (r_zo 0) (.seq (r_zo 1) (.seq (.seq (r_zo 2) (.cond (.tmp 12) (.seq (r_zo 3) .ret) .skip)) (.seq (.seq (r_zo 4) (.block 0 (.loop zoL0))) (.seq (r_zo 8) .ret)))))
theorem zo_body:Tryz.f8.body=some zoBody:=by kernel_rfl
theorem zo_r0(hs:Sl 30 a l df)
  (hN: ∀a',Sl 30 a' ((2,.pointer none)::dropL [2] l) df->N a' w):Rg N Q a w (r_zo 0):=
 reg (l0:=[]) [2] [2] [] hs trivial hN (by kernel_rfl)
theorem zo_r1{C0:Nat->World->Prop}(hs:Sl 30 a l df)(k0:Ca 25 #[] w fun e w'=> ∃gh:Nat,e=.returned (pT gh)/\C0 gh w')
  (hN: ∀a' (gh:Nat) (w1:World),C0 gh w1->Sl 30 a' ((3,pT w1.heap.size)::dropL [3,5,6,7] l) df->N a' (w1.alloc (.cells #[pT gh,.slice none 0 0,.slice none 0 0] 37))):Rg N Q a w (r_zo 1):=
 reg (l0:=[]) [3] [3,5,6,7] [.ex (Nat) (fun gh=>pT gh) C0,.raw,.raw] hs trivial (aI k0 (fun(gh:Nat) (w1:World) (hc0:C0 gh w1)=>(fun a'=>hN a' gh w1 hc0))) (by kernel_rfl)
theorem zo_r2{wp gh:Nat}{b12:Bool}(hs:Sl 30 a l df)(e3:Lk l 3 (pT wp))(l0:Lp 35 (pT wp) (pT gh) w)(h1: ∀w,(binOp .eql 35 (pT gh) (.pointer none)).run Tryz.prog w=.ok (.bool b12) w)
  (hN: ∀a',Sl 30 a' ((12,.bool b12)::dropL [8,9,10,11,12] l) df->N a' w):Rg N Q a w (r_zo 2):=
 reg (l0:=[(3,pT wp)]) [12] [8,9,10,11,12] [.val (pT gh),.bin (.bool b12)] hs ⟨e3,trivial⟩ (aI l0.run (aI (bin_run (x:=.tmp 11) (y:=.const (.pointer none)) (by kernel_rfl) (h1 w)) hN)) (by kernel_rfl)
theorem zo_r4(hs:Sl 30 a l df)
  (hN: ∀a',Sl 30 a' ((4,ii 0)::dropL [4] l) df->N a' w):Rg N Q a w (r_zo 4):=
 reg (l0:=[]) [4] [4] [] hs trivial hN (by kernel_rfl)
theorem zo_r5_t{i an aq:Nat}{ad:Option Addr}{b19:Bool}(hs:Sl 30 a l df)(e4:Lk l 4 (ii (i:Int)))(e0:Lk l 0 (.slice ad an aq))(h0:decide ((i:Int)<(an:Int))=true)(h1:decide ((i:Int)<80)=b19)
  (hN: ∀a',Sl 30 a' ((20,.bool b19)::dropL (List.range' 13 8) l) df->N a' w):Rg N Q a w (r_zo 5):=
 reg (l0:=[(4,ii (i:Int)),(0,.slice ad an aq)]) [20] (List.range' 13 8) [.bit true,.bit b19] hs ⟨e4,e0,trivial⟩ (aI h0 (aI h1 hN)) (by kernel_rfl)
theorem zo_r5_f{i an aq:Nat}{ad:Option Addr}(hs:Sl 30 a l df)(e4:Lk l 4 (ii (i:Int)))(e0:Lk l 0 (.slice ad an aq))(h0:decide ((i:Int)<(an:Int))=false)
  (hN: ∀a',Sl 30 a' ((20,.bool false)::dropL (List.range' 13 8) l) df->N a' w):Rg N Q a w (r_zo 5):=
 reg (l0:=[(4,ii (i:Int)),(0,.slice ad an aq)]) [20] (List.range' 13 8) [.bit false] hs ⟨e4,e0,trivial⟩ (aI h0 hN) (by kernel_rfl)
theorem zo_r6{i:Nat}(hs:Sl 30 a l df)(e4:Lk l 4 (ii (i:Int)))(h0: -9223372036854775808<=(i:Int)+1/\(i:Int)+1<=9223372036854775807)
  (hN: ∀a',Sl 30 a' ((4,ii ((i:Int)+1))::dropL [4,21,22] l) df->N a' w):Rg N Q a w (r_zo 6):=
 reg (l0:=[(4,ii (i:Int))]) [4] [4,21,22] [.ari] hs ⟨e4,trivial⟩ (aI h0 hN) (by kernel_rfl)
theorem zo_r7{wp an aq i g26 o26:Nat}{ad:Option Addr}{ak aa ab ac:Int}{C0:World->Prop}(hs:Sl 30 a l df)(e3:Lk l 3 (pT wp))(e0:Lk l 0 (.slice ad an aq))(e4:Lk l 4 (ii (i:Int)))(i0:Ix 22 (.slice ad an aq) (ii (i:Int)) (pF g26 o26))(l1:Lp 59 (pF g26 o26) (.agg #[ii ak,ii aa,ii ab,ii ac]) w)(k2:Cl 26 #[pT wp,.agg #[ii ak,ii aa,ii ab,ii ac]] w (.tuple #[]) C0)
  (hN: ∀a' (w1:World),C0 w1->Sl 30 a' (dropL [23,24,25,26,27,28] l) df->N a' w1):Rg N Q a w (r_zo 7):=
 reg (l0:=[(3,pT wp),(0,.slice ad an aq),(4,ii (i:Int))]) [] [23,24,25,26,27,28] [.val (pF g26 o26),.val (.agg #[ii ak,ii aa,ii ab,ii ac]),.ret (.tuple #[]) C0] hs ⟨e3,e0,e4,trivial⟩ (aI (i0 w) (aI l1.run (aI k2 (fun(w1:World) (hc0:C0 w1)=>(fun a'=>hN a' w1 hc0))))) (by kernel_rfl)
theorem zo_r8{wp:Nat}(hs:Sl 30 a l df)(e3:Lk l 3 (pT wp))
  (hN: ∀a',Sl 30 a' ((2,pT wp)::dropL [2,29] l) df->N a' w):Rg N Q a w (r_zo 8):=
 reg (l0:=[(3,pT wp)]) [2] [2,29] [] hs ⟨e3,trivial⟩ hN (by kernel_rfl)
noncomputable def r_zk (n:Nat):Code:=((Tryz.f6.body.bind (findR n)).getD .skip)
noncomputable def zkBody:Code:=(.seq (r_zk 0) (.seq (r_zk 1) (.seq (.seq (r_zk 2) (.cond (.tmp 26) (.seq (r_zk 3) .ret) .skip)) (.seq (r_zk 4) (.seq (r_zk 5) (.seq (r_zk 6) (.seq (r_zk 7) (.seq (r_zk 8) (.seq (r_zk 9) (.seq (r_zk 10) (.seq (r_zk 11) (.seq (r_zk 12) .ret))))))))))))
theorem zk_body:Tryz.f6.body=some zkBody:=by kernel_rfl
theorem zk_r0(hs:Sl 77 a l df)
  (hN: ∀a',Sl 77 a' ((0,.bool false)::dropL [0] l) df->N a' w):Rg N Q a w (r_zk 0):=
 reg (l0:=[]) [0] [0] [] hs trivial hN (by kernel_rfl)
theorem zk_r1{C0:Nat->World->Prop}(hs:Sl 77 a l df)(k0:Ca 8 #[.slice (some ⟨w.heap.size,0,none⟩) 5 5] (w.alloc (.cells #[ii 3,ii 0,ii 3,ii 0,ii 1,ii 1,ii 0,ii 0,ii 2,ii 2,ii 0,ii 0,ii 4,ii 0,ii 0,ii 0,ii 7,ii 0,ii 3,ii 5] 59)) fun e w'=> ∃wp:Nat,e=.returned (pT wp)/\C0 wp w')
  (hN: ∀a' (wp:Nat) (w1:World),C0 wp w1->Sl 77 a' ((1,pT wp)::dropL (1::List.range' 10 7) l) df->N a' w1):Rg N Q a w (r_zk 1):=
 reg (l0:=[]) [1] (1::List.range' 10 7) [.raw,.raw,.raw,.raw,.raw,.raw,.ex (Nat) (fun wp=>pT wp) C0] hs trivial (aI k0 (fun(wp:Nat) (w1:World) (hc0:C0 wp w1)=>(fun a'=>hN a' wp w1 hc0))) (by kernel_rfl)
theorem zk_r2_f{wp dn dc:Nat}{dd:Option Addr}{b25:Bool}(hs:Sl 77 a l df)(e1:Lk l 1 (pT wp))(h0: ∀w,(binOp .eql 27 (pT wp) (.pointer none)).run Tryz.prog w=.ok (.bool false) w)(l1:Lp 23 (pF wp 1) (.slice dd dn dc) w)(h2:decide ((dn:Int)≠4)=b25)
  (hN: ∀a',Sl 77 a' ((26,.bool b25)::dropL (List.range' 17 10) l) df->N a' w):Rg N Q a w (r_zk 2):=
 reg (l0:=[(1,pT wp)]) [26] (List.range' 17 10) [.bin (.bool false),.val (.slice dd dn dc),.bit b25] hs ⟨e1,trivial⟩ (aI (bin_run (x:=.tmp 17) (y:=.const (.pointer none)) (by kernel_rfl) (h0 w)) (aI l1.run (aI h2 hN))) (by kernel_rfl)
theorem zk_r4{wp dn dc g31 o31:Nat}{dd:Option Addr}{d:Dt}{m:Dm}(hs:Sl 77 a l df)(e1:Lk l 1 (pT wp))(l0:Lp 23 (pF wp 1) (.slice dd dn dc) w)(i1:Ix 23 (.slice dd dn dc) (ii 2) (pF g31 o31))(l2:Lp 53 (pF g31 o31) (.agg (d.cs m)) w)
  (hN: ∀a',Sl 77 a' ((2,.slice (some ⟨w.heap.size,0,none⟩) 1 1)::dropL (2::List.range' 27 7) l) df->N a' (w.alloc (.cells #[ii d.h.kind,.string d.h.type,ii d.h.n,.int .u64 d.h.f,.string d.h.s,ii d.h.obj,ii d.h.frm,ii d.h.len,ii d.h.cap,.slice m.pa d.h.path.length m.pc,.slice m.ia d.k.len m.ic] 53))):Rg N Q a w (r_zk 4):=
 reg (l0:=[(1,pT wp)]) [2] (2::List.range' 27 7) [.val (.slice dd dn dc),.val (pF g31 o31),.val (.agg (d.cs m)),.raw] hs ⟨e1,trivial⟩ (aI l0.run (aI (i1 w) (aI l2.run hN))) (by kernel_rfl)
theorem zk_r5{wp gh ln lc:Nat}{ld:Option Addr}{C0:S3->World->Prop}(hs:Sl 77 a l df)(e1:Lk l 1 (pT wp))(e2:Lk l 2 (.slice ld ln lc))(l0:Lp 35 (pT wp) (pT gh) w)(k1:Ca 12 #[pT gh,.slice ld ln lc,.slice none 0 0] w fun e w'=> ∃q:S3,e=.returned (.slice q.d q.n q.c)/\C0 q w')
  (hN: ∀a' (q:S3) (w1:World),C0 q w1->Sl 77 a' ((3,.slice q.d q.n q.c)::dropL (3::List.range' 34 6) l) df->N a' w1):Rg N Q a w (r_zk 5):=
 reg (l0:=[(1,pT wp),(2,.slice ld ln lc)]) [3] (3::List.range' 34 6) [.val (pT gh),.ex (S3) (fun q=>.slice q.d q.n q.c) C0] hs ⟨e1,e2,trivial⟩ (aI l0.run (aI k1 (fun(q:S3) (w1:World) (hc0:C0 q w1)=>(fun a'=>hN a' q w1 hc0)))) (by kernel_rfl)
theorem zk_r6{wp gh ln lc:Nat}{ld:Option Addr}{C0:S3->World->Prop}(hs:Sl 77 a l df)(e1:Lk l 1 (pT wp))(e2:Lk l 2 (.slice ld ln lc))(l0:Lp 35 (pT wp) (pT gh) w)(k1:Ca 13 #[pT gh,.slice ld ln lc,.slice none 0 0,ii 1] w fun e w'=> ∃q:S3,e=.returned (.slice q.d q.n q.c)/\C0 q w')
  (hN: ∀a' (q:S3) (w1:World),C0 q w1->Sl 77 a' ((4,.slice q.d q.n q.c)::dropL (4::List.range' 40 6) l) df->N a' w1):Rg N Q a w (r_zk 6):=
 reg (l0:=[(1,pT wp),(2,.slice ld ln lc)]) [4] (4::List.range' 40 6) [.val (pT gh),.ex (S3) (fun q=>.slice q.d q.n q.c) C0] hs ⟨e1,e2,trivial⟩ (aI l0.run (aI k1 (fun(q:S3) (w1:World) (hc0:C0 q w1)=>(fun a'=>hN a' q w1 hc0)))) (by kernel_rfl)
theorem zk_r7{wp gh ln lc:Nat}{ld:Option Addr}{n:Int}{C0:World->Prop}(hs:Sl 77 a l df)(e1:Lk l 1 (pT wp))(e2:Lk l 2 (.slice ld ln lc))(l0:Lp 35 (pT wp) (pT gh) w)(k1:Cl 18 #[pT gh,.slice ld ln lc,.slice none 0 0] w (ii n) C0)
  (hN: ∀a' (w1:World),C0 w1->Sl 77 a' ((5,ii n)::dropL (5::List.range' 46 6) l) df->N a' w1):Rg N Q a w (r_zk 7):=
 reg (l0:=[(1,pT wp),(2,.slice ld ln lc)]) [5] (5::List.range' 46 6) [.val (pT gh),.ret (ii n) C0] hs ⟨e1,e2,trivial⟩ (aI l0.run (aI k1 (fun(w1:World) (hc0:C0 w1)=>(fun a'=>hN a' w1 hc0)))) (by kernel_rfl)
theorem zk_r8{wp gh:Nat}{C0:S3->World->Prop}(hs:Sl 77 a l df)(e1:Lk l 1 (pT wp))(l0:Lp 35 (pT wp) (pT gh) w)(k1:Ca 19 #[pT gh] w fun e w'=> ∃q:S3,e=.returned (.slice q.d q.n q.c)/\C0 q w')
  (hN: ∀a' (q:S3) (w1:World),C0 q w1->Sl 77 a' ((6,.slice q.d q.n q.c)::dropL [6,52,53,54,55,56] l) df->N a' w1):Rg N Q a w (r_zk 8):=
 reg (l0:=[(1,pT wp)]) [6] [6,52,53,54,55,56] [.val (pT gh),.ex (S3) (fun q=>.slice q.d q.n q.c) C0] hs ⟨e1,trivial⟩ (aI l0.run (aI k1 (fun(q:S3) (w1:World) (hc0:C0 q w1)=>(fun a'=>hN a' q w1 hc0)))) (by kernel_rfl)
theorem zk_r9{ad:Option Addr}{an ac:Nat}{b:Bool}{C0:World->Prop}(hs:Sl 77 a l df)(e3:Lk l 3 (.slice ad an ac))(k0:Cl 16 #[.slice ad an ac,.slice (some ⟨w.heap.size,0,none⟩) 3 3] (w.alloc (.cells #[ii 1,ii 2,ii 3] 3)) (.bool b) C0)
  (hN: ∀a' (w1:World),C0 w1->Sl 77 a' ((7,.bool b)::dropL [7,57,58,59] l) df->N a' w1):Rg N Q a w (r_zk 9):=
 reg (l0:=[(3,.slice ad an ac)]) [7] [7,57,58,59] [.raw,.ret (.bool b) C0] hs ⟨e3,trivial⟩ (aI k0 (fun(w1:World) (hc0:C0 w1)=>(fun a'=>hN a' w1 hc0))) (by kernel_rfl)
theorem zk_r10{bd:Option Addr}{bn bc:Nat}{b:Bool}{C0:World->Prop}(hs:Sl 77 a l df)(e4:Lk l 4 (.slice bd bn bc))(k0:Cl 16 #[.slice bd bn bc,.slice (some ⟨w.heap.size,0,none⟩) 3 3] (w.alloc (.cells #[ii 3,ii 2,ii 1] 3)) (.bool b) C0)
  (hN: ∀a' (w1:World),C0 w1->Sl 77 a' ((8,.bool b)::dropL [8,60,61,62] l) df->N a' w1):Rg N Q a w (r_zk 10):=
 reg (l0:=[(4,.slice bd bn bc)]) [8] [8,60,61,62] [.raw,.ret (.bool b) C0] hs ⟨e4,trivial⟩ (aI k0 (fun(w1:World) (hc0:C0 w1)=>(fun a'=>hN a' w1 hc0))) (by kernel_rfl)
theorem zk_r11{cd:Option Addr}{cn cc:Nat}{b:Bool}{C0:World->Prop}(hs:Sl 77 a l df)(e6:Lk l 6 (.slice cd cn cc))(k0:Cl 16 #[.slice cd cn cc,.slice (some ⟨w.heap.size,0,none⟩) 3 3] (w.alloc (.cells #[ii 1,ii 2,ii 3] 3)) (.bool b) C0)
  (hN: ∀a' (w1:World),C0 w1->Sl 77 a' ((9,.bool b)::dropL [9,63,64,65] l) df->N a' w1):Rg N Q a w (r_zk 11):=
 reg (l0:=[(6,.slice cd cn cc)]) [9] [9,63,64,65] [.raw,.ret (.bool b) C0] hs ⟨e6,trivial⟩ (aI k0 (fun(w1:World) (hc0:C0 w1)=>(fun a'=>hN a' w1 hc0))) (by kernel_rfl)
theorem zk_r12_ttt{n5:Int}{b75:Bool}(hs:Sl 77 a l df)(e7:Lk l 7 (.bool true))(e8:Lk l 8 (.bool true))(e9:Lk l 9 (.bool true))(e5:Lk l 5 (ii n5))(h0:decide (n5=1)=b75)
  (hN: ∀a',Sl 77 a' ((0,.bool b75)::dropL (0::List.range' 66 11) l) df->N a' w):Rg N Q a w (r_zk 12):=
 reg (l0:=[(7,.bool true),(8,.bool true),(9,.bool true),(5,ii n5)]) [0] (0::List.range' 66 11) [.bit b75] hs ⟨e7,e8,e9,e5,trivial⟩ (aI h0 hN) (by kernel_rfl)
noncomputable def r_zx (n:Nat):Code:=((Tryz.f4.body.bind (findR n)).getD .skip)
noncomputable def zxL0:Code:=(.seq (.seq (r_zx 27) (.cond (.tmp 149) .skip (.exit 6))) (.seq (.block 7 (.seq (r_zx 29) (.seq (r_zx 30) (.seq (r_zx 31) (.cond (.tmp 168) (.seq (r_zx 32) .ret) .skip))))) (r_zx 28)))
noncomputable def zxL1:Code:=(.seq (.seq (r_zx 19) (.cond (.tmp 100) .skip (.exit 4))) (.seq (.block 5 (.seq (r_zx 21) (.seq (r_zx 22) (.seq (.seq (r_zx 23) (.cond (.tmp 136) (.seq (r_zx 24) .ret) .skip)) (.seq (r_zx 25) (.seq (r_zx 26) (.block 6 (.loop zxL0)))))))) (r_zx 20)))
noncomputable def zxL2:Code:=(.seq (.seq (r_zx 13) (.cond (.tmp 74) .skip (.exit 2))) (.seq (.block 3 (r_zx 15)) (r_zx 14)))
noncomputable def zxL3:Code:=(.seq (.seq (r_zx 7) (.cond (.tmp 46) .skip (.exit 0))) (.seq (.block 1 (r_zx 9)) (r_zx 8)))
noncomputable def zxBody:Code:=(.seq (r_zx 0) (.seq (r_zx 1) (.seq (r_zx 2) (.seq (.seq (r_zx 3) (.cond (.tmp 38) (.seq (r_zx 4) .ret) .skip)) (.seq (r_zx 5) (.seq (.seq (r_zx 6) (.block 0 (.loop zxL3))) (.seq (r_zx 10) (.seq (r_zx 11) (.seq (.seq (r_zx 12) (.block 2 (.loop zxL2))) (.seq (r_zx 16) (.seq (r_zx 17) (.seq (.seq (r_zx 18) (.block 4 (.loop zxL1))) (.seq (r_zx 33) (.seq (r_zx 34) (.seq (r_zx 35) (.seq (r_zx 36) (.seq (r_zx 37) (.seq (r_zx 38) (.seq (r_zx 39) (.seq (r_zx 40) .ret))))))))))))))))))))
theorem zx_body:Tryz.f4.body=some zxBody:=by kernel_rfl
theorem zx_r0(hs:Sl 217 a l df)
  (hN: ∀a',Sl 217 a' ((6,.bool false)::dropL [6] l) df->N a' w):Rg N Q a w (r_zx 0):=
 reg (l0:=[]) [6] [6] [] hs trivial hN (by kernel_rfl)
theorem zx_r1{b:Bool}{C0:World->Prop}(hs:Sl 217 a l df)(k0:Cl 6 #[] w (.bool b) C0)
  (hN: ∀a' (w1:World),C0 w1->Sl 217 a' ((7,.bool b)::dropL [7,30] l) df->N a' w1):Rg N Q a w (r_zx 1):=
 reg (l0:=[]) [7] [7,30] [.ret (.bool b) C0] hs trivial (aI k0 (fun(w1:World) (hc0:C0 w1)=>(fun a'=>hN a' w1 hc0))) (by kernel_rfl)
theorem zx_r2{ad:Option Addr}{an ac:Nat}{C0:Nat->World->Prop}(hs:Sl 217 a l df)(e0:Lk l 0 (.slice ad an ac))(k0:Ca 8 #[.slice ad an ac] w fun e w'=> ∃wp:Nat,e=.returned (pT wp)/\C0 wp w')
  (hN: ∀a' (wp:Nat) (w1:World),C0 wp w1->Sl 217 a' ((8,pT wp)::dropL [8,31,32] l) df->N a' w1):Rg N Q a w (r_zx 2):=
 reg (l0:=[(0,.slice ad an ac)]) [8] [8,31,32] [.ex (Nat) (fun wp=>pT wp) C0] hs ⟨e0,trivial⟩ (aI k0 (fun(wp:Nat) (w1:World) (hc0:C0 wp w1)=>(fun a'=>hN a' wp w1 hc0))) (by kernel_rfl)
theorem zx_r3_t{wp:Nat}{b37:Bool}(hs:Sl 217 a l df)(e7:Lk l 7 (.bool true))(e8:Lk l 8 (pT wp))(h0: ∀w,(binOp .eql 27 (pT wp) (.pointer none)).run Tryz.prog w=.ok (.bool b37) w)
  (hN: ∀a',Sl 217 a' ((38,.bool b37)::dropL [33,34,35,36,37,38] l) df->N a' w):Rg N Q a w (r_zx 3):=
 reg (l0:=[(7,.bool true),(8,pT wp)]) [38] [33,34,35,36,37,38] [.bin (.bool b37)] hs ⟨e7,e8,trivial⟩ (aI (bin_run (x:=.tmp 36) (y:=.const (.pointer none)) (by kernel_rfl) (h0 w)) hN) (by kernel_rfl)
theorem zx_r5(hs:Sl 217 a l df)
  (hN: ∀a',Sl 217 a' ((9,.slice none 0 0)::dropL [9] l) df->N a' w):Rg N Q a w (r_zx 5):=
 reg (l0:=[]) [9] [9] [] hs trivial hN (by kernel_rfl)
theorem zx_r6(hs:Sl 217 a l df)
  (hN: ∀a',Sl 217 a' ((10,ii 0)::dropL [10] l) df->N a' w):Rg N Q a w (r_zx 6):=
 reg (l0:=[]) [10] [10] [] hs trivial hN (by kernel_rfl)
theorem zx_r7_t{i sn sc:Nat}{sd:Option Addr}{b45:Bool}(hs:Sl 217 a l df)(e10:Lk l 10 (ii (i:Int)))(e1:Lk l 1 (.slice sd sn sc))(h0:decide ((i:Int)<(sn:Int))=true)(h1:decide ((i:Int)<20)=b45)
  (hN: ∀a',Sl 217 a' ((46,.bool b45)::dropL (List.range' 39 8) l) df->N a' w):Rg N Q a w (r_zx 7):=
 reg (l0:=[(10,ii (i:Int)),(1,.slice sd sn sc)]) [46] (List.range' 39 8) [.bit true,.bit b45] hs ⟨e10,e1,trivial⟩ (aI h0 (aI h1 hN)) (by kernel_rfl)
theorem zx_r7_f{i sn sc:Nat}{sd:Option Addr}(hs:Sl 217 a l df)(e10:Lk l 10 (ii (i:Int)))(e1:Lk l 1 (.slice sd sn sc))(h0:decide ((i:Int)<(sn:Int))=false)
  (hN: ∀a',Sl 217 a' ((46,.bool false)::dropL (List.range' 39 8) l) df->N a' w):Rg N Q a w (r_zx 7):=
 reg (l0:=[(10,ii (i:Int)),(1,.slice sd sn sc)]) [46] (List.range' 39 8) [.bit false] hs ⟨e10,e1,trivial⟩ (aI h0 hN) (by kernel_rfl)
theorem zx_r8{i:Nat}(hs:Sl 217 a l df)(e10:Lk l 10 (ii (i:Int)))(h0: -9223372036854775808<=(i:Int)+1/\(i:Int)+1<=9223372036854775807)
  (hN: ∀a',Sl 217 a' ((10,ii ((i:Int)+1))::dropL [10,47,48] l) df->N a' w):Rg N Q a w (r_zx 8):=
 reg (l0:=[(10,ii (i:Int))]) [10] [10,47,48] [.ari] hs ⟨e10,trivial⟩ (aI h0 hN) (by kernel_rfl)
theorem zx_r9{ld sd:Option Addr}{ln lc wp sn sc i g53 o53:Nat}{c:Int}{d:Dt}{dm:Dm}{C0:World->Prop}{C1:World->S3->World->Prop}(hs:Sl 217 a l df)(e9:Lk l 9 (.slice ld ln lc))(e8:Lk l 8 (pT wp))(e1:Lk l 1 (.slice sd sn sc))(e10:Lk l 10 (ii (i:Int)))(i0:Ix 24 (.slice sd sn sc) (ii (i:Int)) (pF g53 o53))(l1:Lp 3 (pF g53 o53) (ii c) w)(k2:Cl 22 #[pT wp,ii c] w (.agg (d.cs dm)) C0)(k3: ∀(w1:World),C0 w1->∀ty,∃v w',(Builtin.append_ #[23,23] ty #[.slice ld ln lc,.slice (some ⟨w1.heap.size,0,none⟩) 1 1]).run Tryz.prog (w1.alloc (.cells #[ii d.h.kind,.string d.h.type,ii d.h.n,.int .u64 d.h.f,.string d.h.s,ii d.h.obj,ii d.h.frm,ii d.h.len,ii d.h.cap,.slice dm.pa d.h.path.length dm.pc,.slice dm.ia d.k.len dm.ic] 53))=.ok v.v w'/\C1 (w1.alloc (.cells #[ii d.h.kind,.string d.h.type,ii d.h.n,.int .u64 d.h.f,.string d.h.s,ii d.h.obj,ii d.h.frm,ii d.h.len,ii d.h.cap,.slice dm.pa d.h.path.length dm.pc,.slice dm.ia d.k.len dm.ic] 53)) v w')
  (hN: ∀a' (w1:World) (x57:S3) (w2:World),C0 w1->C1 (w1.alloc (.cells #[ii d.h.kind,.string d.h.type,ii d.h.n,.int .u64 d.h.f,.string d.h.s,ii d.h.obj,ii d.h.frm,ii d.h.len,ii d.h.cap,.slice dm.pa d.h.path.length dm.pc,.slice dm.ia d.k.len dm.ic] 53)) x57 w2->Sl 217 a' ((9,.slice x57.d x57.n x57.c)::dropL (9::List.range' 49 9) l) df->N a' w2):Rg N Q a w (r_zx 9):=
 reg (l0:=[(9,.slice ld ln lc),(8,pT wp),(1,.slice sd sn sc),(10,ii (i:Int))]) [9] (9::List.range' 49 9) [.val (pF g53 o53),.val (ii c),.ret (.agg (d.cs dm)) C0,.raw,.apxw S3 S3.v C1] hs ⟨e9,e8,e1,e10,trivial⟩ (aI (i0 w) (aI l1.run (aI k2 (fun(w1:World) (hc0:C0 w1)=>(aI (k3 w1 hc0) (fun(x57:S3) (w2:World) (hc1:C1 (w1.alloc (.cells #[ii d.h.kind,.string d.h.type,ii d.h.n,.int .u64 d.h.f,.string d.h.s,ii d.h.obj,ii d.h.frm,ii d.h.len,ii d.h.cap,.slice dm.pa d.h.path.length dm.pc,.slice dm.ia d.k.len dm.ic] 53)) x57 w2)=>(fun a'=>hN a' w1 x57 w2 hc0 hc1))))))) (by kernel_rfl)
theorem zx_r10{wp gh ln lc:Nat}{ld:Option Addr}{C0:S3->World->Prop}(hs:Sl 217 a l df)(e8:Lk l 8 (pT wp))(e9:Lk l 9 (.slice ld ln lc))(l0:Lp 35 (pT wp) (pT gh) w)(k1:Ca 12 #[pT gh,.slice ld ln lc,.slice none 0 0] w fun e w'=> ∃g:S3,e=.returned (.slice g.d g.n g.c)/\C0 g w')
  (hN: ∀a' (g:S3) (w1:World),C0 g w1->Sl 217 a' ((11,.slice g.d g.n g.c)::dropL (11::List.range' 58 6) l) df->N a' w1):Rg N Q a w (r_zx 10):=
 reg (l0:=[(8,pT wp),(9,.slice ld ln lc)]) [11] (11::List.range' 58 6) [.val (pT gh),.ex (S3) (fun g=>.slice g.d g.n g.c) C0] hs ⟨e8,e9,trivial⟩ (aI l0.run (aI k1 (fun(g:S3) (w1:World) (hc0:C0 g w1)=>(fun a'=>hN a' g w1 hc0)))) (by kernel_rfl)
theorem zx_r11{ld:Option Addr}{ln lc:Nat}{C0:World->S3->World->Prop}(hs:Sl 217 a l df)(e9:Lk l 9 (.slice ld ln lc))(k0: ∀ty,∃v w',(Builtin.append_ #[23,23] ty #[.slice (some ⟨w.heap.size,0,none⟩) 0 0,.slice ld ln lc]).run Tryz.prog (w.alloc (.cells #[] 53))=.ok v.v w'/\C0 (w.alloc (.cells #[] 53)) v w')
  (hN: ∀a' (x66:S3) (w1:World),C0 (w.alloc (.cells #[] 53)) x66 w1->Sl 217 a' ((12,.slice x66.d x66.n x66.c)::dropL [12,64,65,66] l) df->N a' w1):Rg N Q a w (r_zx 11):=
 reg (l0:=[(9,.slice ld ln lc)]) [12] [12,64,65,66] [.raw,.apxw S3 S3.v C0] hs ⟨e9,trivial⟩ (aI k0 (fun(x66:S3) (w1:World) (hc0:C0 (w.alloc (.cells #[] 53)) x66 w1)=>(fun a'=>hN a' x66 w1 hc0))) (by kernel_rfl)
theorem zx_r12(hs:Sl 217 a l df)
  (hN: ∀a',Sl 217 a' ((13,ii 0)::dropL [13] l) df->N a' w):Rg N Q a w (r_zx 12):=
 reg (l0:=[]) [13] [13] [] hs trivial hN (by kernel_rfl)
theorem zx_r13_t{j tn tc:Nat}{td:Option Addr}{b73:Bool}(hs:Sl 217 a l df)(e13:Lk l 13 (ii (j:Int)))(e2:Lk l 2 (.slice td tn tc))(h0:decide ((j:Int)<(tn:Int))=true)(h1:decide ((j:Int)<20)=b73)
  (hN: ∀a',Sl 217 a' ((74,.bool b73)::dropL (List.range' 67 8) l) df->N a' w):Rg N Q a w (r_zx 13):=
 reg (l0:=[(13,ii (j:Int)),(2,.slice td tn tc)]) [74] (List.range' 67 8) [.bit true,.bit b73] hs ⟨e13,e2,trivial⟩ (aI h0 (aI h1 hN)) (by kernel_rfl)
theorem zx_r13_f{j tn tc:Nat}{td:Option Addr}(hs:Sl 217 a l df)(e13:Lk l 13 (ii (j:Int)))(e2:Lk l 2 (.slice td tn tc))(h0:decide ((j:Int)<(tn:Int))=false)
  (hN: ∀a',Sl 217 a' ((74,.bool false)::dropL (List.range' 67 8) l) df->N a' w):Rg N Q a w (r_zx 13):=
 reg (l0:=[(13,ii (j:Int)),(2,.slice td tn tc)]) [74] (List.range' 67 8) [.bit false] hs ⟨e13,e2,trivial⟩ (aI h0 hN) (by kernel_rfl)
theorem zx_r14{j:Nat}(hs:Sl 217 a l df)(e13:Lk l 13 (ii (j:Int)))(h0: -9223372036854775808<=(j:Int)+1/\(j:Int)+1<=9223372036854775807)
  (hN: ∀a',Sl 217 a' ((13,ii ((j:Int)+1))::dropL [13,75,76] l) df->N a' w):Rg N Q a w (r_zx 14):=
 reg (l0:=[(13,ii (j:Int))]) [13] [13,75,76] [.ari] hs ⟨e13,trivial⟩ (aI h0 hN) (by kernel_rfl)
theorem zx_r15{ud td:Option Addr}{un uc wp tn tc j g81 o81:Nat}{c:Int}{d:Dt}{dm:Dm}{C0:World->Prop}{C1:World->S3->World->Prop}(hs:Sl 217 a l df)(e12:Lk l 12 (.slice ud un uc))(e8:Lk l 8 (pT wp))(e2:Lk l 2 (.slice td tn tc))(e13:Lk l 13 (ii (j:Int)))(i0:Ix 24 (.slice td tn tc) (ii (j:Int)) (pF g81 o81))(l1:Lp 3 (pF g81 o81) (ii c) w)(k2:Cl 22 #[pT wp,ii c] w (.agg (d.cs dm)) C0)(k3: ∀(w1:World),C0 w1->∀ty,∃v w',(Builtin.append_ #[23,23] ty #[.slice ud un uc,.slice (some ⟨w1.heap.size,0,none⟩) 1 1]).run Tryz.prog (w1.alloc (.cells #[ii d.h.kind,.string d.h.type,ii d.h.n,.int .u64 d.h.f,.string d.h.s,ii d.h.obj,ii d.h.frm,ii d.h.len,ii d.h.cap,.slice dm.pa d.h.path.length dm.pc,.slice dm.ia d.k.len dm.ic] 53))=.ok v.v w'/\C1 (w1.alloc (.cells #[ii d.h.kind,.string d.h.type,ii d.h.n,.int .u64 d.h.f,.string d.h.s,ii d.h.obj,ii d.h.frm,ii d.h.len,ii d.h.cap,.slice dm.pa d.h.path.length dm.pc,.slice dm.ia d.k.len dm.ic] 53)) v w')
  (hN: ∀a' (w1:World) (x85:S3) (w2:World),C0 w1->C1 (w1.alloc (.cells #[ii d.h.kind,.string d.h.type,ii d.h.n,.int .u64 d.h.f,.string d.h.s,ii d.h.obj,ii d.h.frm,ii d.h.len,ii d.h.cap,.slice dm.pa d.h.path.length dm.pc,.slice dm.ia d.k.len dm.ic] 53)) x85 w2->Sl 217 a' ((12,.slice x85.d x85.n x85.c)::dropL (12::List.range' 77 9) l) df->N a' w2):Rg N Q a w (r_zx 15):=
 reg (l0:=[(12,.slice ud un uc),(8,pT wp),(2,.slice td tn tc),(13,ii (j:Int))]) [12] (12::List.range' 77 9) [.val (pF g81 o81),.val (ii c),.ret (.agg (d.cs dm)) C0,.raw,.apxw S3 S3.v C1] hs ⟨e12,e8,e2,e13,trivial⟩ (aI (i0 w) (aI l1.run (aI k2 (fun(w1:World) (hc0:C0 w1)=>(aI (k3 w1 hc0) (fun(x85:S3) (w2:World) (hc1:C1 (w1.alloc (.cells #[ii d.h.kind,.string d.h.type,ii d.h.n,.int .u64 d.h.f,.string d.h.s,ii d.h.obj,ii d.h.frm,ii d.h.len,ii d.h.cap,.slice dm.pa d.h.path.length dm.pc,.slice dm.ia d.k.len dm.ic] 53)) x85 w2)=>(fun a'=>hN a' w1 x85 w2 hc0 hc1))))))) (by kernel_rfl)
theorem zx_r16{wp gh un uc:Nat}{ud:Option Addr}{C0:S3->World->Prop}(hs:Sl 217 a l df)(e8:Lk l 8 (pT wp))(e12:Lk l 12 (.slice ud un uc))(l0:Lp 35 (pT wp) (pT gh) w)(k1:Ca 12 #[pT gh,.slice ud un uc,.slice none 0 0] w fun e w'=> ∃g:S3,e=.returned (.slice g.d g.n g.c)/\C0 g w')
  (hN: ∀a' (g:S3) (w1:World),C0 g w1->Sl 217 a' ((14,.slice g.d g.n g.c)::dropL (14::List.range' 86 6) l) df->N a' w1):Rg N Q a w (r_zx 16):=
 reg (l0:=[(8,pT wp),(12,.slice ud un uc)]) [14] (14::List.range' 86 6) [.val (pT gh),.ex (S3) (fun g=>.slice g.d g.n g.c) C0] hs ⟨e8,e12,trivial⟩ (aI l0.run (aI k1 (fun(g:S3) (w1:World) (hc0:C0 g w1)=>(fun a'=>hN a' g w1 hc0)))) (by kernel_rfl)
theorem zx_r17{wp gh:Nat}{C0:S3->World->Prop}(hs:Sl 217 a l df)(e8:Lk l 8 (pT wp))(l0:Lp 35 (pT wp) (pT gh) w)(k1:Ca 19 #[pT gh] w fun e w'=> ∃g:S3,e=.returned (.slice g.d g.n g.c)/\C0 g w')
  (hN: ∀a' (g:S3) (w1:World),C0 g w1->Sl 217 a' ((15,.slice g.d g.n g.c)::dropL [15,92,93,94,95,96] l) df->N a' w1):Rg N Q a w (r_zx 17):=
 reg (l0:=[(8,pT wp)]) [15] [15,92,93,94,95,96] [.val (pT gh),.ex (S3) (fun g=>.slice g.d g.n g.c) C0] hs ⟨e8,trivial⟩ (aI l0.run (aI k1 (fun(g:S3) (w1:World) (hc0:C0 g w1)=>(fun a'=>hN a' g w1 hc0)))) (by kernel_rfl)
theorem zx_r18(hs:Sl 217 a l df)
  (hN: ∀a',Sl 217 a' ((16,ii 0)::dropL [16] l) df->N a' w):Rg N Q a w (r_zx 18):=
 reg (l0:=[]) [16] [16] [] hs trivial hN (by kernel_rfl)
theorem zx_r19{k fn fc:Nat}{fd:Option Addr}{b100:Bool}(hs:Sl 217 a l df)(e16:Lk l 16 (ii (k:Int)))(e11:Lk l 11 (.slice fd fn fc))(h0:decide ((k:Int)<(fn:Int))=b100)
  (hN: ∀a',Sl 217 a' ((100,.bool b100)::dropL [97,98,99,100] l) df->N a' w):Rg N Q a w (r_zx 19):=
 reg (l0:=[(16,ii (k:Int)),(11,.slice fd fn fc)]) [100] [97,98,99,100] [.bit b100] hs ⟨e16,e11,trivial⟩ (aI h0 hN) (by kernel_rfl)
theorem zx_r20{k:Nat}(hs:Sl 217 a l df)(e16:Lk l 16 (ii (k:Int)))(h0: -9223372036854775808<=(k:Int)+1/\(k:Int)+1<=9223372036854775807)
  (hN: ∀a',Sl 217 a' ((16,ii ((k:Int)+1))::dropL [16,101,102] l) df->N a' w):Rg N Q a w (r_zx 20):=
 reg (l0:=[(16,ii (k:Int))]) [16] [16,101,102] [.ari] hs ⟨e16,trivial⟩ (aI h0 hN) (by kernel_rfl)
theorem zx_r21{md fd:Option Addr}{mn mc fn fc k g106 o106:Nat}{n:Int}{b:Bool}{C0:World->Prop}(hs:Sl 217 a l df)(e14:Lk l 14 (.slice md mn mc))(e11:Lk l 11 (.slice fd fn fc))(e16:Lk l 16 (ii (k:Int)))(i0:Ix 24 (.slice fd fn fc) (ii (k:Int)) (pF g106 o106))(l1:Lp 3 (pF g106 o106) (ii n) w)(k2:Cl 23 #[.slice md mn mc,ii n] w (.bool b) C0)
  (hN: ∀a' (w1:World),C0 w1->Sl 217 a' ((17,.bool b)::dropL (17::List.range' 103 6) l) df->N a' w1):Rg N Q a w (r_zx 21):=
 reg (l0:=[(14,.slice md mn mc),(11,.slice fd fn fc),(16,ii (k:Int))]) [17] (17::List.range' 103 6) [.val (pF g106 o106),.val (ii n),.ret (.bool b) C0] hs ⟨e14,e11,e16,trivial⟩ (aI (i0 w) (aI l1.run (aI k2 (fun(w1:World) (hc0:C0 w1)=>(fun a'=>hN a' w1 hc0))))) (by kernel_rfl)
theorem zx_r22{qd fd:Option Addr}{qn qc fn fc k g112 o112:Nat}{n:Int}{b:Bool}{C0:World->Prop}(hs:Sl 217 a l df)(e15:Lk l 15 (.slice qd qn qc))(e11:Lk l 11 (.slice fd fn fc))(e16:Lk l 16 (ii (k:Int)))(i0:Ix 24 (.slice fd fn fc) (ii (k:Int)) (pF g112 o112))(l1:Lp 3 (pF g112 o112) (ii n) w)(k2:Cl 23 #[.slice qd qn qc,ii n] w (.bool b) C0)
  (hN: ∀a' (w1:World),C0 w1->Sl 217 a' ((18,.bool b)::dropL (18::List.range' 109 6) l) df->N a' w1):Rg N Q a w (r_zx 22):=
 reg (l0:=[(15,.slice qd qn qc),(11,.slice fd fn fc),(16,ii (k:Int))]) [18] (18::List.range' 109 6) [.val (pF g112 o112),.val (ii n),.ret (.bool b) C0] hs ⟨e15,e11,e16,trivial⟩ (aI (i0 w) (aI l1.run (aI k2 (fun(w1:World) (hc0:C0 w1)=>(fun a'=>hN a' w1 hc0))))) (by kernel_rfl)
theorem zx_r23_ttt{k fn fc g127 o127 g132 o132:Nat}{fd:Option Addr}{x1 x2:Int}{b134:Bool}(hs:Sl 217 a l df)(e17:Lk l 17 (.bool true))(e18:Lk l 18 (.bool true))(e16:Lk l 16 (ii (k:Int)))(e11:Lk l 11 (.slice fd fn fc))(h0:decide ((0:Int)<(k:Int))=true)(i1:Ix 24 (.slice fd fn fc) (ii (k:Int)) (pF g127 o127))(l2:Lp 3 (pF g127 o127) (ii x1) w)(h3: -9223372036854775808<=(k:Int)-1/\(k:Int)-1<=9223372036854775807)(i4:Ix 24 (.slice fd fn fc) (ii ((k:Int)-1)) (pF g132 o132))(l5:Lp 3 (pF g132 o132) (ii x2) w)(h6:decide (x1<=x2)=b134)
  (hN: ∀a' mm,Sl 217 a' ((136,.bool b134)::dropL (List.range' 115 22) l) df->N a' (w.drewN mm)):Rg N Q a w (r_zx 23):=
 regQ (l0:=[(17,.bool true),(18,.bool true),(16,ii (k:Int)),(11,.slice fd fn fc)]) [136] (List.range' 115 22) [.bit true,.val (pF g127 o127),.val (ii x1),.ari,.val (pF g132 o132),.val (ii x2),.bit b134] hs ⟨e17,e18,e16,e11,trivial⟩ (aI h0 (aI i1 (aI l2 (aI h3 (aI i4 (aI l5 (aI h6 hN))))))) (by kernel_rfl)
theorem zx_r23_ttf{k:Nat}(hs:Sl 217 a l df)(e17:Lk l 17 (.bool true))(e18:Lk l 18 (.bool true))(e16:Lk l 16 (ii (k:Int)))(h0:decide ((0:Int)<(k:Int))=false)
  (hN: ∀a' mm,Sl 217 a' ((136,.bool false)::dropL (List.range' 115 22) l) df->N a' (w.drewN mm)):Rg N Q a w (r_zx 23):=
 regQ (l0:=[(17,.bool true),(18,.bool true),(16,ii (k:Int))]) [136] (List.range' 115 22) [.bit false] hs ⟨e17,e18,e16,trivial⟩ (aI h0 hN) (by kernel_rfl)
theorem zx_r25{C:World->Prop}{wp gh fn fc k g143 o143:Nat}{fd:Option Addr}{n:Int}{C0:S3->World->Prop}(hs:Sl 217 a l df)(e8:Lk l 8 (pT wp))(e11:Lk l 11 (.slice fd fn fc))(e16:Lk l 16 (ii (k:Int)))(c0:C (w.drewN 1))(l1: ∀u,C u->Lp 35 (pT wp) (pT gh) u)(i2:Ix 24 (.slice fd fn fc) (ii (k:Int)) (pF g143 o143))(l3: ∀u,C u->Lp 3 (pF g143 o143) (ii n) u)(k4:Ca 21 #[pT gh,ii n] (w.drewN 1) fun e w'=> ∃g:S3,e=.returned (.slice g.d g.n g.c)/\C0 g w')
  (hN: ∀a' (g:S3) (w1:World),C0 g w1->Sl 217 a' ((19,.slice g.d g.n g.c)::dropL (19::List.range' 137 9) l) df->N a' w1):Rg N Q a w (r_zx 25):=
 regP (l0:=[(8,pT wp),(11,.slice fd fn fc),(16,ii (k:Int))]) 8 [(true,0),(true,1),(true,2),(true,3),(true,4),(true,5),(true,6),(true,7)] C [19] (19::List.range' 137 9) [.val (pT gh),.val (pF g143 o143),.val (ii n),.ex (S3) (fun g=>.slice g.d g.n g.c) C0] hs ⟨e8,e11,e16,trivial⟩ (aI c0 (aI c0 (aI c0 (aI c0 (aI (fun u hu=>(l1 u hu).run) (aI c0 (aI c0 (aI c0 (aI i2 (aI c0 (aI (fun u hu=>(l3 u hu).run) (aI c0 (aI k4 (fun(g:S3) (w1:World) (hc0:C0 g w1)=>(fun a'=>hN a' g w1 hc0))))))))))))))) (by kernel_rfl)
theorem zx_r26(hs:Sl 217 a l df)
  (hN: ∀a',Sl 217 a' ((20,ii 0)::dropL [20] l) df->N a' w):Rg N Q a w (r_zx 26):=
 reg (l0:=[]) [20] [20] [] hs trivial hN (by kernel_rfl)
theorem zx_r27{e vn vc:Nat}{vd:Option Addr}{b149:Bool}(hs:Sl 217 a l df)(e20:Lk l 20 (ii (e:Int)))(e19:Lk l 19 (.slice vd vn vc))(h0:decide ((e:Int)<(vn:Int))=b149)
  (hN: ∀a',Sl 217 a' ((149,.bool b149)::dropL [146,147,148,149] l) df->N a' w):Rg N Q a w (r_zx 27):=
 reg (l0:=[(20,ii (e:Int)),(19,.slice vd vn vc)]) [149] [146,147,148,149] [.bit b149] hs ⟨e20,e19,trivial⟩ (aI h0 hN) (by kernel_rfl)
theorem zx_r28{e:Nat}(hs:Sl 217 a l df)(e20:Lk l 20 (ii (e:Int)))(h0: -9223372036854775808<=(e:Int)+1/\(e:Int)+1<=9223372036854775807)
  (hN: ∀a',Sl 217 a' ((20,ii ((e:Int)+1))::dropL [20,150,151] l) df->N a' w):Rg N Q a w (r_zx 28):=
 reg (l0:=[(20,ii (e:Int))]) [20] [20,150,151] [.ari] hs ⟨e20,trivial⟩ (aI h0 hN) (by kernel_rfl)
theorem zx_r29{fd vd:Option Addr}{fn fc vn vc e g155 o155:Nat}{n:Int}{b:Bool}{C0:World->Prop}(hs:Sl 217 a l df)(e11:Lk l 11 (.slice fd fn fc))(e19:Lk l 19 (.slice vd vn vc))(e20:Lk l 20 (ii (e:Int)))(i0:Ix 24 (.slice vd vn vc) (ii (e:Int)) (pF g155 o155))(l1:Lp 3 (pF g155 o155) (ii n) w)(k2:Cl 23 #[.slice fd fn fc,ii n] w (.bool b) C0)
  (hN: ∀a' (w1:World),C0 w1->Sl 217 a' ((21,.bool b)::dropL (21::List.range' 152 6) l) df->N a' w1):Rg N Q a w (r_zx 29):=
 reg (l0:=[(11,.slice fd fn fc),(19,.slice vd vn vc),(20,ii (e:Int))]) [21] (21::List.range' 152 6) [.val (pF g155 o155),.val (ii n),.ret (.bool b) C0] hs ⟨e11,e19,e20,trivial⟩ (aI (i0 w) (aI l1.run (aI k2 (fun(w1:World) (hc0:C0 w1)=>(fun a'=>hN a' w1 hc0))))) (by kernel_rfl)
theorem zx_r30{qd vd:Option Addr}{qn qc vn vc e g161 o161:Nat}{n:Int}{b:Bool}{C0:World->Prop}(hs:Sl 217 a l df)(e15:Lk l 15 (.slice qd qn qc))(e19:Lk l 19 (.slice vd vn vc))(e20:Lk l 20 (ii (e:Int)))(i0:Ix 24 (.slice vd vn vc) (ii (e:Int)) (pF g161 o161))(l1:Lp 3 (pF g161 o161) (ii n) w)(k2:Cl 23 #[.slice qd qn qc,ii n] w (.bool b) C0)
  (hN: ∀a' (w1:World),C0 w1->Sl 217 a' ((22,.bool b)::dropL (22::List.range' 158 6) l) df->N a' w1):Rg N Q a w (r_zx 30):=
 reg (l0:=[(15,.slice qd qn qc),(19,.slice vd vn vc),(20,ii (e:Int))]) [22] (22::List.range' 158 6) [.val (pF g161 o161),.val (ii n),.ret (.bool b) C0] hs ⟨e15,e19,e20,trivial⟩ (aI (i0 w) (aI l1.run (aI k2 (fun(w1:World) (hc0:C0 w1)=>(fun a'=>hN a' w1 hc0))))) (by kernel_rfl)
theorem zx_r31_t(hs:Sl 217 a l df)(e21:Lk l 21 (.bool true))
  (hN: ∀a',Sl 217 a' ((168,.bool false)::dropL [164,165,166,167,168] l) df->N a' w):Rg N Q a w (r_zx 31):=
 reg (l0:=[(21,.bool true)]) [168] [164,165,166,167,168] [] hs ⟨e21,trivial⟩ hN (by kernel_rfl)
theorem zx_r31_f{b22:Bool}(hs:Sl 217 a l df)(e21:Lk l 21 (.bool false))(e22:Lk l 22 (.bool b22))
  (hN: ∀a',Sl 217 a' ((168,.bool b22)::dropL [164,165,166,167,168] l) df->N a' w):Rg N Q a w (r_zx 31):=
 reg (l0:=[(21,.bool false),(22,.bool b22)]) [168] [164,165,166,167,168] [] hs ⟨e21,e22,trivial⟩ hN (by kernel_rfl)
theorem zx_r33{wp gh un uc:Nat}{ud:Option Addr}{n:Int}{C0:World->Prop}(hs:Sl 217 a l df)(e8:Lk l 8 (pT wp))(e12:Lk l 12 (.slice ud un uc))(l0:Lp 35 (pT wp) (pT gh) w)(k1:Cl 18 #[pT gh,.slice ud un uc,.slice none 0 0] w (ii n) C0)
  (hN: ∀a' (w1:World),C0 w1->Sl 217 a' ((23,ii n)::dropL (23::List.range' 169 6) l) df->N a' w1):Rg N Q a w (r_zx 33):=
 reg (l0:=[(8,pT wp),(12,.slice ud un uc)]) [23] (23::List.range' 169 6) [.val (pT gh),.ret (ii n) C0] hs ⟨e8,e12,trivial⟩ (aI l0.run (aI k1 (fun(w1:World) (hc0:C0 w1)=>(fun a'=>hN a' w1 hc0)))) (by kernel_rfl)
theorem zx_r34{wp gh:Nat}{C0:S3->World->Prop}(hs:Sl 217 a l df)(e8:Lk l 8 (pT wp))(l0:Lp 35 (pT wp) (pT gh) w)(k1:Ca 19 #[pT gh] w fun e w'=> ∃g:S3,e=.returned (.slice g.d g.n g.c)/\C0 g w')
  (hN: ∀a' (g:S3) (w1:World),C0 g w1->Sl 217 a' ((24,.slice g.d g.n g.c)::dropL [24,175,176,177,178,179] l) df->N a' w1):Rg N Q a w (r_zx 34):=
 reg (l0:=[(8,pT wp)]) [24] [24,175,176,177,178,179] [.val (pT gh),.ex (S3) (fun g=>.slice g.d g.n g.c) C0] hs ⟨e8,trivial⟩ (aI l0.run (aI k1 (fun(g:S3) (w1:World) (hc0:C0 g w1)=>(fun a'=>hN a' g w1 hc0)))) (by kernel_rfl)
theorem zx_r35{wp gh un uc:Nat}{ud:Option Addr}{C0:S3->World->Prop}(hs:Sl 217 a l df)(e8:Lk l 8 (pT wp))(e12:Lk l 12 (.slice ud un uc))(l0:Lp 35 (pT wp) (pT gh) w)(k1:Ca 12 #[pT gh,.slice ud un uc,.slice none 0 0] w fun e w'=> ∃g:S3,e=.returned (.slice g.d g.n g.c)/\C0 g w')
  (hN: ∀a' (g:S3) (w1:World),C0 g w1->Sl 217 a' ((25,.slice g.d g.n g.c)::dropL (25::List.range' 180 6) l) df->N a' w1):Rg N Q a w (r_zx 35):=
 reg (l0:=[(8,pT wp),(12,.slice ud un uc)]) [25] (25::List.range' 180 6) [.val (pT gh),.ex (S3) (fun g=>.slice g.d g.n g.c) C0] hs ⟨e8,e12,trivial⟩ (aI l0.run (aI k1 (fun(g:S3) (w1:World) (hc0:C0 g w1)=>(fun a'=>hN a' g w1 hc0)))) (by kernel_rfl)
theorem zx_r36{xd md:Option Addr}{xn xc mn mc:Nat}{b:Bool}{C0:World->Prop}(hs:Sl 217 a l df)(e24:Lk l 24 (.slice xd xn xc))(e14:Lk l 14 (.slice md mn mc))(k0:Cl 16 #[.slice xd xn xc,.slice md mn mc] w (.bool b) C0)
  (hN: ∀a' (w1:World),C0 w1->Sl 217 a' ((26,.bool b)::dropL [26,186,187,188] l) df->N a' w1):Rg N Q a w (r_zx 36):=
 reg (l0:=[(24,.slice xd xn xc),(14,.slice md mn mc)]) [26] [26,186,187,188] [.ret (.bool b) C0] hs ⟨e24,e14,trivial⟩ (aI k0 (fun(w1:World) (hc0:C0 w1)=>(fun a'=>hN a' w1 hc0))) (by kernel_rfl)
theorem zx_r37{yd md:Option Addr}{yn yc mn mc:Nat}{b:Bool}{C0:World->Prop}(hs:Sl 217 a l df)(e25:Lk l 25 (.slice yd yn yc))(e14:Lk l 14 (.slice md mn mc))(k0:Cl 16 #[.slice yd yn yc,.slice md mn mc] w (.bool b) C0)
  (hN: ∀a' (w1:World),C0 w1->Sl 217 a' ((27,.bool b)::dropL [27,189,190,191] l) df->N a' w1):Rg N Q a w (r_zx 37):=
 reg (l0:=[(25,.slice yd yn yc),(14,.slice md mn mc)]) [27] [27,189,190,191] [.ret (.bool b) C0] hs ⟨e25,e14,trivial⟩ (aI k0 (fun(w1:World) (hc0:C0 w1)=>(fun a'=>hN a' w1 hc0))) (by kernel_rfl)
theorem zx_r38{wp gh ln lc:Nat}{ld:Option Addr}{C0:S3->World->Prop}(hs:Sl 217 a l df)(e8:Lk l 8 (pT wp))(e9:Lk l 9 (.slice ld ln lc))(l0:Lp 35 (pT wp) (pT gh) w)(k1:Ca 12 #[pT gh,.slice ld ln lc,.slice none 0 0] w fun e w'=> ∃g:S3,e=.returned (.slice g.d g.n g.c)/\C0 g w')
  (hN: ∀a' (g:S3) (w1:World),C0 g w1->Sl 217 a' ((28,.slice g.d g.n g.c)::dropL (28::List.range' 192 6) l) df->N a' w1):Rg N Q a w (r_zx 38):=
 reg (l0:=[(8,pT wp),(9,.slice ld ln lc)]) [28] (28::List.range' 192 6) [.val (pT gh),.ex (S3) (fun g=>.slice g.d g.n g.c) C0] hs ⟨e8,e9,trivial⟩ (aI l0.run (aI k1 (fun(g:S3) (w1:World) (hc0:C0 g w1)=>(fun a'=>hN a' g w1 hc0)))) (by kernel_rfl)
theorem zx_r39{zd fd:Option Addr}{zn zc fn fc:Nat}{b:Bool}{C0:World->Prop}(hs:Sl 217 a l df)(e28:Lk l 28 (.slice zd zn zc))(e11:Lk l 11 (.slice fd fn fc))(k0:Cl 16 #[.slice zd zn zc,.slice fd fn fc] w (.bool b) C0)
  (hN: ∀a' (w1:World),C0 w1->Sl 217 a' ((29,.bool b)::dropL [29,198,199,200] l) df->N a' w1):Rg N Q a w (r_zx 39):=
 reg (l0:=[(28,.slice zd zn zc),(11,.slice fd fn fc)]) [29] [29,198,199,200] [.ret (.bool b) C0] hs ⟨e28,e11,trivial⟩ (aI k0 (fun(w1:World) (hc0:C0 w1)=>(fun a'=>hN a' w1 hc0))) (by kernel_rfl)
theorem zx_r40_ttt{n23:Int}{qd md:Option Addr}{qn qc mn mc:Nat}{b29:Bool}(hs:Sl 217 a l df)(e23:Lk l 23 (ii n23))(e15:Lk l 15 (.slice qd qn qc))(e14:Lk l 14 (.slice md mn mc))(e26:Lk l 26 (.bool true))(e27:Lk l 27 (.bool true))(e29:Lk l 29 (.bool b29))(h0: -9223372036854775808<=(qn:Int)-(mn:Int)/\(qn:Int)-(mn:Int)<=9223372036854775807)(h1:decide (n23=((qn:Int)-(mn:Int)))=true)
  (hN: ∀a',Sl 217 a' ((6,.bool b29)::dropL (6::List.range' 201 16) l) df->N a' w):Rg N Q a w (r_zx 40):=
 reg (l0:=[(23,ii n23),(15,.slice qd qn qc),(14,.slice md mn mc),(26,.bool true),(27,.bool true),(29,.bool b29)]) [6] (6::List.range' 201 16) [.ari,.bit true] hs ⟨e23,e15,e14,e26,e27,e29,trivial⟩ (aI h0 (aI h1 hN)) (by kernel_rfl)
end Go.Proofs.YtbjegfpfmnleeaaGreatDoor
