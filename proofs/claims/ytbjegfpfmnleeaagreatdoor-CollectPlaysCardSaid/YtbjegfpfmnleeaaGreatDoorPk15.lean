/-
   Written by an AI agent.
-/
import Derived.Test.YtbjegfpfmnleeaaGreatDoorPk13
namespace Go.Proofs.YtbjegfpfmnleeaaGreatDoor
open Go.RowKit Go.Sort
set_option maxRecDepth 100000
variable {a:Act} {w:World} {df:List Deferred} {N:Act->World->Prop} {Q:Exit->Act->World->Prop} {l:List (Nat×Value)}
variable {C C0 C1:World->Prop} {C2:Value->World->Prop} {aa ab ac ak c k:Int} {b15:Bool} {bc bn dc dn g3 g4 g5 gh i kc kn n n5 n6 n7 n8 n9 p wp:Nat} {bd dd kd:Option Addr} {d x y z:Dt} {m mx my mz:Dm} {v:Value}
noncomputable def Az9 (n:Nat):Code:=((Tryz.f10.body.bind (D4 n)).getD .skip)
noncomputable def Ba0:Code:=(.seq (Az9 0) (.seq (.seq (Az9 1) (.cond (.tmp 6) (Az9 2) .skip)) (.seq (Az9 3) .ret)))
theorem Bq6:Tryz.f10.body=some Ba0:=by kernel_rfl
theorem Ek8(hs:Sl 13 a l df)
  (hN: ∀a',Sl 13 a' ((4,ii 0)::A6 [4] l) df->N a' w):Rg N Q a w (Az9 0):=
 Zg [4] hs hN
theorem Cw2{b6:Bool}(hs:Sl 13 a l df)(e0:Lk l 0 (ii c))(h0:decide (c<0)=b6)
  (hN: ∀a',Sl 13 a' ((6,.bool b6)::A6 [5,6] l) df->N a' w):Rg N Q a w (Az9 1):=
 reg [6] [5,6] [.bit b6] hs (Zc e0 Zz) (aI h0 hN) Zk
theorem Ek9{v9:Int}(hs:Sl 13 a l df)(e0:Lk l 0 (ii c))(h0: -9223372036854775808<=c+1/\c+1<=9223372036854775807)(h1: ∀w,(Op.unary .neg (ii (c+1))).run Tryz.prog w=.ok (ii v9) w)
  (hN: ∀a',Sl 13 a' ((0,ii v9)::A6 [0,7,8,9] l) df->N a' w):Rg N Q a w (Az9 2):=
 reg [0] [0,7,8,9] [.ari,.val (ii v9)] hs (Zc e0 Zz) (aI h0 (aI (h1 w) hN)) Zk
theorem Cw3{v12:Int}(hs:Sl 13 a l df)(e0:Lk l 0 (ii c))(e1:Lk l 1 (ii (n:Int)))(h0: ∀w,(binOp .rem 3 (ii c) (ii (n:Int))).run Tryz.prog w=.ok (ii v12) w)
  (hN: ∀a',Sl 13 a' ((4,ii v12)::A6 [4,10,11,12] l) df->N a' w):Rg N Q a w (Az9 3):=
 reg [4] [4,10,11,12] [.bin (ii v12)] hs (Zc e0<|Zc e1 Zz) (aI (G4 (x:=.tmp 10) (y:=.tmp 11) Zk (h0 w)) hN) Zk
noncomputable def Dn7 (n:Nat):Code:=((Tryz.f42.body.bind (D4 n)).getD .skip)
noncomputable def Ba1:Code:=(.seq (Dn7 0) (.seq (Dn7 1) .ret))
theorem Bq7:Tryz.f42.body=some Ba1:=by kernel_rfl
theorem El0(hs:Sl 5 a l df)
  (hN: ∀a',Sl 5 a' ((2,pT w.heap.size)::A6 [2] l) df->N a' (w.alloc (.cells zA 53))):Rg N Q a w (Dn7 0):=
 reg [2] [2] [.raw] hs Zz hN Zk
theorem El1{g2:Nat}(hs:Sl 5 a l df)(e0:Lk l 0 (ii (n:Int)))(e2:Lk l 2 (pT g2))(s0:So 53 g2 0 (.agg #[ii 2,.string (⟨#[105,110,116]⟩),ii (n:Int),.int .u64 0,.string (⟨#[]⟩),ii 0,ii 0,ii 0,ii 0,.slice none 0 0,.slice none 0 0]) w [ii 2,.string (⟨#[105,110,116]⟩),ii (n:Int),.int .u64 0,.string (⟨#[]⟩),ii 0,ii 0,ii 0,ii 0,.slice none 0 0,.slice none 0 0])
  (hN: ∀a',Sl 5 a' (A6 [3,4] l) df->N a' (w.setCells g2 0 [ii 2,.string (⟨#[105,110,116]⟩),ii (n:Int),.int .u64 0,.string (⟨#[]⟩),ii 0,ii 0,ii 0,ii 0,.slice none 0 0,.slice none 0 0])):Rg N Q a w (Dn7 1):=
 reg [] [3,4] [.raw,.sto] hs (Zc e0<|Zc e2 Zz) (aI s0 hN) Zk
noncomputable def Ol (n:Nat):Code:=((Tryz.f22.body.bind (D4 n)).getD .skip)
noncomputable def Ba2:Code:=(.seq (Ol 0) (.seq (Ol 1) (.seq (.seq (Ol 2) (.cond (.tmp 15) (.seq (Ol 3) .ret) .skip)) (.seq (.seq (Ol 4) (.cond (.tmp 23) (.seq (Ol 5) .ret) .skip)) (.seq (Ol 6) .ret)))))
theorem Bq8:Tryz.f22.body=some Ba2:=by kernel_rfl
theorem El2(hs:Sl 34 a l df)
  (hN: ∀a',Sl 34 a' ((4,pT w.heap.size)::A6 [4] l) df->N a' (w.alloc (.cells zA 53))):Rg N Q a w (Ol 0):=
 reg [4] [4] [.raw] hs Zz hN Zk
theorem El3(hs:Sl 34 a l df)(e1:Lk l 1 (ii c))(e0:Lk l 0 (pT wp))(l0:Lp 23 (pF wp 1) (.slice dd dn dc) w)(h1: -9223372036854775808<=(dn:Int)+2/\(dn:Int)+2<=9223372036854775807)(k2:Cl 10 #[ii c,ii ((dn:Int)+2)] w (ii (n:Int)) C0)
  (hN: ∀a' (w1:World),C0 w1->Sl 34 a' ((5,ii (n:Int))::A6 (List.range' 5 9) l) df->N a' w1):Rg N Q a w (Ol 1):=
 reg [5] (List.range' 5 9) [.val (.slice dd dn dc),.ari,.ret (ii (n:Int)) C0] hs (Zc e1<|Zc e0 Zz) (aI l0.run (aI h1 (aI k2 (fun(w1:World) (hc0:C0 w1)a'=>hN a' w1 hc0)))) Zk
theorem Cw4(hs:Sl 34 a l df)(e5:Lk l 5 (ii (n:Int)))(h0:decide ((n:Int)=0)=b15)
  (hN: ∀a',Sl 34 a' ((15,.bool b15)::A6 [14,15] l) df->N a' w):Rg N Q a w (Ol 2):=
 reg [15] [14,15] [.bit b15] hs (Zc e5 Zz) (aI h0 hN) Zk
theorem El4(hs:Sl 34 a l df)(e4:Lk l 4 (pT g4))(s0:So 53 g4 0 (.agg zA) w [ii 0,.string (⟨#[]⟩),ii 0,.int .u64 0,.string (⟨#[]⟩),ii 0,ii 0,ii 0,ii 0,.slice none 0 0,.slice none 0 0])
  (hN: ∀a',Sl 34 a' (A6 [16] l) df->N a' (w.setCells g4 0 [ii 0,.string (⟨#[]⟩),ii 0,.int .u64 0,.string (⟨#[]⟩),ii 0,ii 0,ii 0,ii 0,.slice none 0 0,.slice none 0 0])):Rg N Q a w (Ol 3):=
 reg [] [16] [.raw,.sto] hs (Zc e4 Zz) (aI s0 hN) Zk
theorem Cw5{n21 q21:Nat}{d21:Option Addr}{b23:Bool}(hs:Sl 34 a l df)(e5:Lk l 5 (ii (n:Int)))(e0:Lk l 0 (pT wp))(l0:Lp 23 (pF wp 1) (.slice d21 n21 q21) w)(h1:decide ((n21:Int)<(n:Int))=b23)
  (hN: ∀a',Sl 34 a' ((23,.bool b23)::A6 (List.range' 17 7) l) df->N a' w):Rg N Q a w (Ol 4):=
 reg [23] (List.range' 17 7) [.val (.slice d21 n21 q21),.bit b23] hs (Zc e5<|Zc e0 Zz) (aI l0.run (aI h1 hN)) Zk
theorem El5(hs:Sl 34 a l df)(e5:Lk l 5 (ii (n:Int)))(e4:Lk l 4 (pT g4))(k0:Cl 42 #[ii (n:Int)] w (.agg (d.cs m)) C0)(s1: ∀(w1:World),C0 w1->So 53 g4 0 (.agg (d.cs m)) w1 (d.cs m).toList)
  (hN: ∀a' (w1:World),C0 w1->Sl 34 a' (A6 [24,25] l) df->N a' (w1.setCells g4 0 (d.cs m).toList)):Rg N Q a w (Ol 5):=
 reg [] [24,25] [.ret (.agg (d.cs m)) C0,.sto] hs (Zc e5<|Zc e4 Zz) (aI k0 (fun(w1:World) (hc0:C0 w1)=>(aI (s1 w1 hc0) (fun a'=>hN a' w1 hc0)))) Zk
theorem El6{g32 o32:Nat}(hs:Sl 34 a l df)(e0:Lk l 0 (pT wp))(e5:Lk l 5 (ii (n:Int)))(e4:Lk l 4 (pT g4))(l0:Lp 23 (pF wp 1) (.slice dd dn dc) w)(h1: -9223372036854775808<=(n:Int)-1/\(n:Int)-1<=9223372036854775807)(i2:Ix 23 (.slice dd dn dc) (ii ((n:Int)-1)) (pF g32 o32))(l3:Lp 53 (pF g32 o32) (.agg (d.cs m)) w)(s4:So 53 g4 0 (.agg (d.cs m)) w (d.cs m).toList)
  (hN: ∀a',Sl 34 a' (A6 (List.range' 26 8) l) df->N a' (w.setCells g4 0 (d.cs m).toList)):Rg N Q a w (Ol 6):=
 reg [] (List.range' 26 8) [.val (.slice dd dn dc),.ari,.val (pF g32 o32),.val (.agg (d.cs m)),.sto] hs (Zc e0<|Zc e5<|Zc e4 Zz) (aI l0.run (aI h1 (aI (i2 w) (aI l3.run (aI s4 hN))))) Zk
noncomputable def Dn8 (n:Nat):Code:=((Tryz.f49.body.bind (D4 n)).getD .skip)
noncomputable def Ba3:Code:=(.seq (Dn8 0) (.seq (Dn8 1) .ret))
theorem Bq9:Tryz.f49.body=some Ba3:=by kernel_rfl
theorem El7(hs:Sl 15 a l df)
  (hN: ∀a',Sl 15 a' ((6,pT w.heap.size)::A6 [6] l) df->N a' (w.alloc (.cells zA 53))):Rg N Q a w (Dn8 0):=
 reg [6] [6] [.raw] hs Zz hN Zk
theorem El8{g6:Nat}{e:Int}(hs:Sl 15 a l df)(e0:Lk l 0 (pT wp))(e1:Lk l 1 (ii c))(e2:Lk l 2 (ii e))(e6:Lk l 6 (pT g6))(k0:Cl 22 #[pT wp,ii c] w (.agg (x.cs mx)) C0)(k1: ∀(w1:World),C0 w1->Cl 22 #[pT wp,ii e] w1 (.agg (y.cs my)) C1)(s2: ∀(w1:World),C0 w1->∀(w2:World),C1 w2->So 53 g6 0 (.agg #[ii 8,.string (⟨#[84]⟩),ii 0,.int .u64 0,.string (⟨#[]⟩),ii 0,ii 0,ii 0,ii 0,.slice none 0 0,.slice (some ⟨w2.heap.size,0,none⟩) 2 2]) (w2.alloc (.cells #[ii x.h.kind,.string x.h.type,ii x.h.n,.int .u64 x.h.f,.string x.h.s,ii x.h.obj,ii x.h.frm,ii x.h.len,ii x.h.cap,.slice mx.pa x.h.path.length mx.pc,.slice mx.ia x.k.len mx.ic,ii y.h.kind,.string y.h.type,ii y.h.n,.int .u64 y.h.f,.string y.h.s,ii y.h.obj,ii y.h.frm,ii y.h.len,ii y.h.cap,.slice my.pa y.h.path.length my.pc,.slice my.ia y.k.len my.ic] 53)) [ii 8,.string (⟨#[84]⟩),ii 0,.int .u64 0,.string (⟨#[]⟩),ii 0,ii 0,ii 0,ii 0,.slice none 0 0,.slice (some ⟨w2.heap.size,0,none⟩) 2 2])
  (hN: ∀a' (w1:World) (w2:World),C0 w1->C1 w2->Sl 15 a' (A6 (List.range' 7 8) l) df->N a' ((w2.alloc (.cells #[ii x.h.kind,.string x.h.type,ii x.h.n,.int .u64 x.h.f,.string x.h.s,ii x.h.obj,ii x.h.frm,ii x.h.len,ii x.h.cap,.slice mx.pa x.h.path.length mx.pc,.slice mx.ia x.k.len mx.ic,ii y.h.kind,.string y.h.type,ii y.h.n,.int .u64 y.h.f,.string y.h.s,ii y.h.obj,ii y.h.frm,ii y.h.len,ii y.h.cap,.slice my.pa y.h.path.length my.pc,.slice my.ia y.k.len my.ic] 53)).setCells g6 0 [ii 8,.string (⟨#[84]⟩),ii 0,.int .u64 0,.string (⟨#[]⟩),ii 0,ii 0,ii 0,ii 0,.slice none 0 0,.slice (some ⟨w2.heap.size,0,none⟩) 2 2])):Rg N Q a w (Dn8 1):=
 reg [] (List.range' 7 8) [.ret (.agg (x.cs mx)) C0,.ret (.agg (y.cs my)) C1,.raw,.raw,.sto] hs (Zc e0<|Zc e1<|Zc e2<|Zc e6 Zz) (aI k0 (fun(w1:World) (hc0:C0 w1)=>(aI (k1 w1 hc0) (fun(w2:World) (hc1:C1 w2)=>(aI (s2 w1 hc0 w2 hc1) (fun a'=>hN a' w1 w2 hc0 hc1)))))) Zk
noncomputable def Kh (n:Nat):Code:=((Tryz.f44.body.bind (D4 n)).getD .skip)
noncomputable def Ev1:Code:=(.seq (.seq (Kh 2) (.cond (.tmp 15) .skip (.exit 0))) (.seq (.block 1 (.seq (Kh 4) (.seq (Kh 5) (.cond (.tmp 41) (.seq (Kh 6) .ret) .skip)))) (Kh 3)))
noncomputable def Ba4:Code:=(.seq (Kh 0) (.seq (.seq (Kh 1) (.block 0 (.loop Ev1))) (.seq (Kh 7) .ret)))
theorem Br0:Tryz.f44.body=some Ba4:=by kernel_rfl
theorem El9(hs:Sl 44 a l df)
  (hN: ∀a',Sl 44 a' ((6,ii 0)::A6 [6] l) df->N a' w):Rg N Q a w (Kh 0):=
 Zg [6] hs hN
theorem Em0(hs:Sl 44 a l df)
  (hN: ∀a',Sl 44 a' ((7,ii 0)::A6 [7] l) df->N a' w):Rg N Q a w (Kh 1):=
 Zg [7] hs hN
theorem Cw6(hs:Sl 44 a l df)(e7:Lk l 7 (ii (i:Int)))(e0:Lk l 0 (pT wp))(l0:Lp 24 (pF wp 2) (.slice kd kn kc) w)(h1:decide ((i:Int)<(kn:Int))=b15)
  (hN: ∀a',Sl 44 a' ((15,.bool b15)::A6 (List.range' 9 7) l) df->N a' w):Rg N Q a w (Kh 2):=
 reg [15] (List.range' 9 7) [.val (.slice kd kn kc),.bit b15] hs (Zc e7<|Zc e0 Zz) (aI l0.run (aI h1 hN)) Zk
theorem Em1(hs:Sl 44 a l df)(e7:Lk l 7 (ii (i:Int)))(h0: -9223372036854775808<=(i:Int)+1/\(i:Int)+1<=9223372036854775807)
  (hN: ∀a',Sl 44 a' ((7,ii ((i:Int)+1))::A6 [7,16,17] l) df->N a' w):Rg N Q a w (Kh 3):=
 reg [7] [7,16,17] [.ari] hs (Zc e7 Zz) (aI h0 hN) Zk
theorem Em2{v32:Int}(hs:Sl 44 a l df)(e1:Lk l 1 (ii c))(e0:Lk l 0 (pT wp))(e7:Lk l 7 (ii (i:Int)))(l0:Lp 24 (pF wp 2) (.slice kd kn kc) w)(k1: ∀mm,Ca 10 #[ii c,ii (kn:Int)] (w.drewN mm) fun e w'=>e=.returned (ii (p:Int))/\∃m',w'=w.drewN m')(h2: -9223372036854775808<=(p:Int)+(i:Int)/\(p:Int)+(i:Int)<=9223372036854775807)(h3: ∀w,(binOp .rem 3 (ii ((p:Int)+(i:Int))) (ii (kn:Int))).run Tryz.prog w=.ok (ii v32) w)
  (hN: ∀a' mm,Sl 44 a' ((8,ii v32)::A6 (8::List.range' 18 15) l) df->N a' (w.drewN mm)):Rg N Q a w (Kh 4):=
 Ao [8] (8::List.range' 18 15) [.val (.slice kd kn kc),.val (ii (p:Int)),.ari,.val (.slice kd kn kc),.bin (ii v32)] hs (Zc e1<|Zc e0<|Zc e7 Zz) (aI l0 (aI k1 (aI h2 (aI l0 (aI (fun w'=>G4 (x:=.tmp 26) (y:=.tmp 31) Zk (h3 w')) hN))))) Zk
theorem Cw7{g38 o38:Nat}{x:Int}{b41:Bool}(hs:Sl 44 a l df)(e0:Lk l 0 (pT wp))(e8:Lk l 8 (ii (n:Int)))(e2:Lk l 2 (ii k))(l0:Lp 24 (pF wp 2) (.slice kd kn kc) w)(i1:Ix 24 (.slice kd kn kc) (ii (n:Int)) (pF g38 o38))(l2:Lp 3 (pF g38 o38) (ii x) w)(h3:decide (x=k)=b41)
  (hN: ∀a',Sl 44 a' ((41,.bool b41)::A6 (List.range' 33 9) l) df->N a' w):Rg N Q a w (Kh 5):=
 reg [41] (List.range' 33 9) [.val (.slice kd kn kc),.val (pF g38 o38),.val (ii x),.bit b41] hs (Zc e0<|Zc e8<|Zc e2 Zz) (aI l0.run (aI (i1 w) (aI l2.run (aI h3 hN)))) Zk
theorem Em3(hs:Sl 44 a l df)(e8:Lk l 8 (ii (n:Int)))(h0: -9223372036854775808<=(n:Int)+1/\(n:Int)+1<=9223372036854775807)
  (hN: ∀a',Sl 44 a' ((6,ii ((n:Int)+1))::A6 [6,42,43] l) df->N a' w):Rg N Q a w (Kh 6):=
 reg [6] [6,42,43] [.ari] hs (Zc e8 Zz) (aI h0 hN) Zk
theorem Em4(hs:Sl 44 a l df)
  (hN: ∀a',Sl 44 a' ((6,ii 0)::A6 [6] l) df->N a' w):Rg N Q a w (Kh 7):=
 Zg [6] hs hN
noncomputable def P4 (n:Nat):Code:=((Tryz.f43.body.bind (D4 n)).getD .skip)
noncomputable def Ba5:Code:=(.seq (P4 0) (.seq (P4 1) (.seq (.seq (P4 2) (.block 0 (.seq (P4 3) (.cond (.tmp 13) (P4 4) (.seq (P4 5) (.cond (.tmp 29) (P4 6) (.seq (P4 7) (.cond (.tmp 48) (.seq (P4 8) (P4 9)) (.seq (P4 10) (.cond (.tmp 69) (.seq (P4 11) (P4 12)) (.seq (P4 13) (.cond (.tmp 85) (.seq (P4 14) (.seq (P4 15) (.seq (.seq (P4 16) (.cond (.tmp 92) (P4 17) .skip)) (P4 18)))) .skip)))))))))))) (.seq (P4 19) .ret))))
theorem Br1:Tryz.f43.body=some Ba5:=by kernel_rfl
theorem Em5(hs:Sl 115 a l df)(e1:Lk l 1 (.agg #[ii ak,ii aa,ii ab,ii ac]))
  (hN: ∀a',Sl 115 a' ((3,pT w.heap.size)::(4,pT ((w.alloc (.cells #[ii ak,ii aa,ii ab,ii ac] 59)).heap.size))::A6 [3,4] l) df->N a' ((w.alloc (.cells #[ii ak,ii aa,ii ab,ii ac] 59)).alloc (.cells zA 53))):Rg N Q a w (P4 0):=
 reg [3,4] [3,4] [.raw,.raw] hs (Zc e1 Zz) hN Zk
theorem Em6(hs:Sl 115 a l df)(s0:So 53 w.heap.size 0 (.agg zA) (w.alloc (.cells zA 53)) [ii 0,.string (⟨#[]⟩),ii 0,.int .u64 0,.string (⟨#[]⟩),ii 0,ii 0,ii 0,ii 0,.slice none 0 0,.slice none 0 0])
  (hN: ∀a',Sl 115 a' ((5,pT w.heap.size)::A6 [5,10] l) df->N a' ((w.alloc (.cells zA 53)).setCells w.heap.size 0 [ii 0,.string (⟨#[]⟩),ii 0,.int .u64 0,.string (⟨#[]⟩),ii 0,ii 0,ii 0,ii 0,.slice none 0 0,.slice none 0 0])):Rg N Q a w (P4 1):=
 reg [5] [5,10] [.raw,.raw,.sto] hs Zz (aI s0 hN) Zk
theorem Em7(hs:Sl 115 a l df)(e3:Lk l 3 (pT g3))(l0:Lp 3 (pT g3) (ii k) w)
  (hN: ∀a',Sl 115 a' ((12,ii k)::A6 [11,12] l) df->N a' w):Rg N Q a w (P4 2):=
 reg [12] [11,12] [.val (ii k)] hs (Zc e3 Zz) (aI l0.run hN) Zk
theorem Cw8{b14:Bool}(hs:Sl 115 a l df)(e12:Lk l 12 (ii k))(h0:decide (k=1)=b14)
  (hN: ∀a',Sl 115 a' ((13,.bool b14)::A6 [13,14] l) df->N a' w):Rg N Q a w (P4 3):=
 reg [13] [13,14] [.bit b14] hs (Zc e12 Zz) (aI h0 hN) Zk
theorem Em8{C0:Dm->World->Prop}(hs:Sl 115 a l df)(e0:Lk l 0 (pT wp))(e3:Lk l 3 (pT g3))(e5:Lk l 5 (pT g5))(c0:C (w.drewN 1))(l1: ∀u,C u->Lp 35 (pT wp) (pT gh) u)(l2: ∀u,C u->Lp 3 (pF g3 1) (ii aa) u)(l3: ∀u,C u->Lp 3 (pF g3 2) (ii ab) u)(k4:Ca 49 #[pT wp,ii aa,ii ab] (w.drewN 1) fun e w'=> ∃q:Dm,e=.returned (.agg (x.cs q))/\C0 q w')(c5: ∀(q:Dm) (w1:World),C0 q w1->C w1)(k6: ∀(q:Dm) (w1:World),C0 q w1->Cl 59 #[pT gh,.agg (x.cs q)] w1 (.tuple #[.agg (y.cs my),v]) C1)(c7: ∀(q:Dm) (w1:World),C0 q w1->∀(w2:World),C1 w2->C w2)(s8: ∀(q:Dm) (w1:World),C0 q w1->∀(w2:World),C1 w2->So 53 g5 0 (.agg (y.cs my)) w2 (y.cs my).toList)(c9: ∀(q:Dm) (w1:World),C0 q w1->∀(w2:World),C1 w2->C (w2.setCells g5 0 (y.cs my).toList))
  (hN0: ∀a' (q:Dm) (w1:World) (w2:World),C0 q w1->C1 w2->Sl 115 a' (A6 (List.range' 15 14) l) df->N a' (w2.setCells g5 0 (y.cs my).toList)):Rg N Q a w (P4 4):=
 Cd4 (.rd 0 (.rd 1 (.rd 2 (.rd 3 (.rd 4 (.rd 5 (.rd 6 (.rd 7 (.rd 8 (.e1 9 (.e1 10 (.rd 11 (.rd 12 (.rd 13 (.e1 14 .fin))))))))))))))) C [] (List.range' 15 14) [.val (pT gh),.val (ii aa),.val (ii ab),.ex (Dm) (fun q=>.agg (x.cs q)) C0,.ret (.tuple #[.agg (y.cs my),v]) C1,.sto] hs (Zc e0<|Zc e3<|Zc e5 Zz) (aI c0 (aI c0 (aI c0 (aI c0 (aI (fun u hu=>(l1 u hu).run) (aI c0 (aI c0 (aI c0 (aI (fun u hu=>(l2 u hu).run) (aI c0 (aI c0 (aI (fun u hu=>(l3 u hu).run) (aI c0 (aI k4 (fun(q:Dm) (w1:World) (hc0:C0 q w1)=>(aI (c5 q w1 hc0) (aI (k6 q w1 hc0) (fun(w2:World) (hc1:C1 w2)=>(aI (c7 q w1 hc0 w2 hc1) (aI (c7 q w1 hc0 w2 hc1) (aI (c7 q w1 hc0 w2 hc1) (aI (c7 q w1 hc0 w2 hc1) (aI (s8 q w1 hc0 w2 hc1) (aI (c9 q w1 hc0 w2 hc1) (fun a'=>hN0 a' q w1 w2 hc0 hc1))))))))))))))))))))))))) Zk
theorem Cw9{b30:Bool}(hs:Sl 115 a l df)(e12:Lk l 12 (ii k))(h0:decide (k=2)=b30)
  (hN: ∀a',Sl 115 a' ((29,.bool b30)::A6 [29,30] l) df->N a' w):Rg N Q a w (P4 5):=
 reg [29] [29,30] [.bit b30] hs (Zc e12 Zz) (aI h0 hN) Zk
theorem Em9{C2:World->Prop}(hs:Sl 115 a l df)(e0:Lk l 0 (pT wp))(e3:Lk l 3 (pT g3))(e5:Lk l 5 (pT g5))(c0:C (w.drewN 1))(l1: ∀u,C u->Lp 35 (pT wp) (pT gh) u)(l2: ∀u,C u->Lp 3 (pF g3 1) (ii aa) u)(l3: ∀u,C u->Lp 3 (pF g3 2) (ii ab) u)(k4:Cl 22 #[pT wp,ii aa] (w.drewN 1) (.agg (x.cs mx)) C0)(c5: ∀(w1:World),C0 w1->C w1)(k6: ∀(w1:World),C0 w1->Cl 22 #[pT wp,ii ab] w1 (.agg (y.cs my)) C1)(c7: ∀(w1:World),C0 w1->∀(w2:World),C1 w2->C w2)(c8: ∀(w1:World),C0 w1->∀(w2:World),C1 w2->C (w2.alloc (.cells #[ii x.h.kind,.string x.h.type,ii x.h.n,.int .u64 x.h.f,.string x.h.s,ii x.h.obj,ii x.h.frm,ii x.h.len,ii x.h.cap,.slice mx.pa x.h.path.length mx.pc,.slice mx.ia x.k.len mx.ic,ii y.h.kind,.string y.h.type,ii y.h.n,.int .u64 y.h.f,.string y.h.s,ii y.h.obj,ii y.h.frm,ii y.h.len,ii y.h.cap,.slice my.pa y.h.path.length my.pc,.slice my.ia y.k.len my.ic] 53)))(k9: ∀(w1:World),C0 w1->∀(w2:World),C1 w2->Cl 60 #[pT gh,.slice (some ⟨w2.heap.size,0,none⟩) 2 2] (w2.alloc (.cells #[ii x.h.kind,.string x.h.type,ii x.h.n,.int .u64 x.h.f,.string x.h.s,ii x.h.obj,ii x.h.frm,ii x.h.len,ii x.h.cap,.slice mx.pa x.h.path.length mx.pc,.slice mx.ia x.k.len mx.ic,ii y.h.kind,.string y.h.type,ii y.h.n,.int .u64 y.h.f,.string y.h.s,ii y.h.obj,ii y.h.frm,ii y.h.len,ii y.h.cap,.slice my.pa y.h.path.length my.pc,.slice my.ia y.k.len my.ic] 53)) (.tuple #[.agg (z.cs mz),v]) C2)(c10: ∀(w1:World),C0 w1->∀(w2:World),C1 w2->∀(w3:World),C2 w3->C w3)(s11: ∀(w1:World),C0 w1->∀(w2:World),C1 w2->∀(w3:World),C2 w3->So 53 g5 0 (.agg (z.cs mz)) w3 (z.cs mz).toList)(c12: ∀(w1:World),C0 w1->∀(w2:World),C1 w2->∀(w3:World),C2 w3->C (w3.setCells g5 0 (z.cs mz).toList))
  (hN0: ∀a' (w1:World) (w2:World) (w3:World),C0 w1->C1 w2->C2 w3->Sl 115 a' (A6 (List.range' 31 17) l) df->N a' (w3.setCells g5 0 (z.cs mz).toList)):Rg N Q a w (P4 6):=
 Cd4 (.rd 0 (.rd 1 (.rd 2 (.rd 3 (.rd 4 (.rd 5 (.rd 6 (.rd 8 (.rd 9 (.rd 10 (.e1 7 (.e1 11 (.e1 12 (.e1 13 (.rd 14 (.rd 15 (.rd 16 (.e1 17 .fin)))))))))))))))))) C [] (List.range' 31 17) [.val (pT gh),.val (ii aa),.val (ii ab),.ret (.agg (x.cs mx)) C0,.ret (.agg (y.cs my)) C1,.raw,.ret (.tuple #[.agg (z.cs mz),v]) C2,.sto] hs (Zc e0<|Zc e3<|Zc e5 Zz) (aI c0 (aI c0 (aI c0 (aI c0 (aI (fun u hu=>(l1 u hu).run) (aI c0 (aI c0 (aI c0 (aI (fun u hu=>(l2 u hu).run) (aI c0 (aI c0 (aI c0 (aI (fun u hu=>(l3 u hu).run) (aI c0 (aI k4 (fun(w1:World) (hc0:C0 w1)=>(aI (c5 w1 hc0) (aI (k6 w1 hc0) (fun(w2:World) (hc1:C1 w2)=>(aI (c7 w1 hc0 w2 hc1) (aI (c8 w1 hc0 w2 hc1) (aI (k9 w1 hc0 w2 hc1) (fun(w3:World) (hc2:C2 w3)=>(aI (c10 w1 hc0 w2 hc1 w3 hc2) (aI (c10 w1 hc0 w2 hc1 w3 hc2) (aI (c10 w1 hc0 w2 hc1 w3 hc2) (aI (c10 w1 hc0 w2 hc1 w3 hc2) (aI (s11 w1 hc0 w2 hc1 w3 hc2) (aI (c12 w1 hc0 w2 hc1 w3 hc2) (fun a'=>hN0 a' w1 w2 w3 hc0 hc1 hc2)))))))))))))))))))))))))))))) Zk
theorem Cx0{b49:Bool}(hs:Sl 115 a l df)(e12:Lk l 12 (ii k))(h0:decide (k=3)=b49)
  (hN: ∀a',Sl 115 a' ((48,.bool b49)::A6 [48,49] l) df->N a' w):Rg N Q a w (P4 7):=
 reg [48] [48,49] [.bit b49] hs (Zc e12 Zz) (aI h0 hN) Zk
theorem En0(hs:Sl 115 a l df)(e0:Lk l 0 (pT wp))(e5:Lk l 5 (pT g5))(l0:Lp 35 (pT wp) (pT gh) w)(k1:Cl 61 #[pT gh] w (.agg (y.cs my)) C0)(s2: ∀(w1:World),C0 w1->So 53 g5 0 (.agg (y.cs my)) w1 (y.cs my).toList)
  (hN: ∀a' (w1:World),C0 w1->Sl 115 a' (A6 [50,51,52,53,54] l) df->N a' (w1.setCells g5 0 (y.cs my).toList)):Rg N Q a w (P4 8):=
 reg [] [50,51,52,53,54] [.val (pT gh),.ret (.agg (y.cs my)) C0,.sto] hs (Zc e0<|Zc e5 Zz) (aI l0.run (aI k1 (fun(w1:World) (hc0:C0 w1)=>(aI (s2 w1 hc0) (fun a'=>hN a' w1 hc0))))) Zk
theorem En1(hs:Sl 115 a l df)(e0:Lk l 0 (pT wp))(e5:Lk l 5 (pT g5))(e3:Lk l 3 (pT g3))(c0:C (w.drewN 1))(l1: ∀u,C u->Lp 35 (pT wp) (pT gh) u)(l2: ∀u,C u->Lp 53 (pT g5) (.agg (d.cs m)) u)(l3: ∀u,C u->Lp 3 (pF g3 2) (ii ab) u)(l4: ∀u,C u->Lp 3 (pF g3 1) (ii aa) u)(k5:Cl 22 #[pT wp,ii ab] (w.drewN 1) (.agg (x.cs mx)) C0)(c6: ∀(w1:World),C0 w1->C w1)(k7: ∀(w1:World),C0 w1->Cl 22 #[pT wp,ii aa] w1 (.agg (y.cs my)) C1)(c8: ∀(w1:World),C0 w1->∀(w2:World),C1 w2->C w2)(k9: ∀(w1:World),C0 w1->∀(w2:World),C1 w2->Ca 46 #[pT gh,.agg (d.cs m),.agg (x.cs mx),.agg (y.cs my)] w2 fun e w'=> ∃er:Value,e=.returned (er)/\C2 er w')
  (hN: ∀a' (w1:World) (w2:World) (er:Value) (w3:World),C0 w1->C1 w2->C2 er w3->Sl 115 a' (A6 (List.range' 55 14) l) df->N a' w3):Rg N Q a w (P4 9):=
 Sq 13 [(true,0),(true,1),(true,2),(true,3),(true,4),(true,5),(true,6),(true,7),(true,9),(true,10),(true,11),(false,8),(false,12)] C [] (List.range' 55 14) [.val (pT gh),.val (.agg (d.cs m)),.val (ii ab),.val (ii aa),.ret (.agg (x.cs mx)) C0,.ret (.agg (y.cs my)) C1,.ex (Value) (fun er=>er) C2] hs (Zc e0<|Zc e5<|Zc e3 Zz) (aI c0 (aI c0 (aI c0 (aI c0 (aI (fun u hu=>(l1 u hu).run) (aI c0 (aI (fun u hu=>(l2 u hu).run) (aI c0 (aI c0 (aI c0 (aI (fun u hu=>(l3 u hu).run) (aI c0 (aI c0 (aI c0 (aI (fun u hu=>(l4 u hu).run) (aI c0 (aI k5 (fun(w1:World) (hc0:C0 w1)=>(aI (c6 w1 hc0) (aI (k7 w1 hc0) (fun(w2:World) (hc1:C1 w2)=>(aI (c8 w1 hc0 w2 hc1) (aI (k9 w1 hc0 w2 hc1) (fun(er:Value) (w3:World) (hc2:C2 er w3)a'=>hN a' w1 w2 er w3 hc0 hc1 hc2)))))))))))))))))))))))) Zk
theorem Ba6{b70:Bool}(hs:Sl 115 a l df)(e12:Lk l 12 (ii k))(h0:decide (k=4)=b70)
  (hN: ∀a',Sl 115 a' ((69,.bool b70)::A6 [69,70] l) df->N a' w):Rg N Q a w (P4 10):=
 reg [69] [69,70] [.bit b70] hs (Zc e12 Zz) (aI h0 hN) Zk
theorem Cx1(hs:Sl 115 a l df)(e0:Lk l 0 (pT wp))(e3:Lk l 3 (pT g3))(c0:C (w.drewN 1))(l1: ∀u,C u->Lp 35 (pT wp) (pT gh) u)(l2: ∀u,C u->Lp 3 (pF g3 1) (ii aa) u)(k3:Cl 22 #[pT wp,ii aa] (w.drewN 1) (.agg (x.cs mx)) C0)(c4: ∀(w1:World),C0 w1->C w1)(k5: ∀(w1:World),C0 w1->Cl 62 #[pT gh,.agg (x.cs mx)] w1 (.tuple #[ii (n:Int),v]) C1)(c6: ∀(w1:World),C0 w1->∀(w2:World),C1 w2->C w2)
  (hN: ∀a' (w1:World) (w2:World),C0 w1->C1 w2->Sl 115 a' ((6,ii (n:Int))::A6 (6::7::List.range' 71 12) l) df->N a' w2):Rg N Q a w (P4 11):=
 Sq 13 [(true,0),(true,1),(true,2),(true,3),(true,4),(true,5),(true,6),(false,7),(false,8),(true,9),(true,10),(true,11),(true,12)] C [6] (6::7::List.range' 71 12) [.val (pT gh),.val (ii aa),.ret (.agg (x.cs mx)) C0,.ret (.tuple #[ii (n:Int),v]) C1] hs (Zc e0<|Zc e3 Zz) (aI c0 (aI c0 (aI c0 (aI c0 (aI (fun u hu=>(l1 u hu).run) (aI c0 (aI c0 (aI c0 (aI (fun u hu=>(l2 u hu).run) (aI c0 (aI k3 (fun(w1:World) (hc0:C0 w1)=>(aI (c4 w1 hc0) (aI (k5 w1 hc0) (fun(w2:World) (hc1:C1 w2)=>(aI (c6 w1 hc0 w2 hc1) (aI (c6 w1 hc0 w2 hc1) (aI (c6 w1 hc0 w2 hc1) (aI (c6 w1 hc0 w2 hc1) (aI (c6 w1 hc0 w2 hc1) (fun a'=>hN a' w1 w2 hc0 hc1))))))))))))))))))))) Zk
theorem Cx2(hs:Sl 115 a l df)(e6:Lk l 6 (ii (n6:Int)))(e5:Lk l 5 (pT g5))(k0:Cl 42 #[ii (n6:Int)] w (.agg (y.cs my)) C0)(s1: ∀(w1:World),C0 w1->So 53 g5 0 (.agg (y.cs my)) w1 (y.cs my).toList)
  (hN: ∀a' (w1:World),C0 w1->Sl 115 a' (A6 [83,84] l) df->N a' (w1.setCells g5 0 (y.cs my).toList)):Rg N Q a w (P4 12):=
 reg [] [83,84] [.ret (.agg (y.cs my)) C0,.sto] hs (Zc e6<|Zc e5 Zz) (aI k0 (fun(w1:World) (hc0:C0 w1)=>(aI (s1 w1 hc0) (fun a'=>hN a' w1 hc0)))) Zk
theorem Ba7{b86:Bool}(hs:Sl 115 a l df)(e12:Lk l 12 (ii k))(h0:decide (k=5)=b86)
  (hN: ∀a',Sl 115 a' ((85,.bool b86)::A6 [85,86] l) df->N a' w):Rg N Q a w (P4 13):=
 reg [85] [85,86] [.bit b86] hs (Zc e12 Zz) (aI h0 hN) Zk
theorem Cx3(hs:Sl 115 a l df)
  (hN: ∀a',Sl 115 a' ((8,.slice none 0 0)::A6 [8] l) df->N a' w):Rg N Q a w (P4 14):=
 Zg [8] hs hN
theorem Cx4(hs:Sl 115 a l df)(e0:Lk l 0 (pT wp))(e3:Lk l 3 (pT g3))(l0:Lp 3 (pF g3 1) (ii aa) w)(k1:Cl 44 #[pT wp,ii aa,ii 4] w (ii (n:Int)) C0)
  (hN: ∀a' (w1:World),C0 w1->Sl 115 a' ((9,ii (n:Int))::A6 [9,87,88,89,90] l) df->N a' w1):Rg N Q a w (P4 15):=
 reg [9] [9,87,88,89,90] [.val (ii aa),.ret (ii (n:Int)) C0] hs (Zc e0<|Zc e3 Zz) (aI l0.run (aI k1 (fun(w1:World) (hc0:C0 w1)a'=>hN a' w1 hc0))) Zk
theorem Ba8{b92:Bool}(hs:Sl 115 a l df)(e9:Lk l 9 (ii (n9:Int)))(h0:decide ((0:Int)<(n9:Int))=b92)
  (hN: ∀a',Sl 115 a' ((92,.bool b92)::A6 [91,92] l) df->N a' w):Rg N Q a w (P4 16):=
 reg [92] [91,92] [.bit b92] hs (Zc e9 Zz) (aI h0 hN) Zk
theorem Cx5{C0:S3->World->Prop}(hs:Sl 115 a l df)(e8:Lk l 8 (.slice bd bn bc))(e9:Lk l 9 (ii (n9:Int)))(k0: ∀ty,∃v w',(Builtin.append_ #[24,24] ty #[.slice bd bn bc,.slice (some ⟨w.heap.size,0,none⟩) 1 1]).run Tryz.prog (w.alloc (.cells #[ii (n9:Int)] 3))=.ok v.v w'/\C0 v w')
  (hN: ∀a' (x96:S3) (w1:World),C0 x96 w1->Sl 115 a' ((8,.slice x96.d x96.n x96.c)::A6 [8,93,94,95,96] l) df->N a' w1):Rg N Q a w (P4 17):=
 reg [8] [8,93,94,95,96] [.raw,.apx S3 S3.v C0] hs (Zc e8<|Zc e9 Zz) (aI k0 (fun(x96:S3) (w1:World) (hc0:C0 x96 w1)a'=>hN a' x96 w1 hc0)) Zk
theorem Cx6(hs:Sl 115 a l df)(e0:Lk l 0 (pT wp))(e3:Lk l 3 (pT g3))(e8:Lk l 8 (.slice bd bn bc))(e5:Lk l 5 (pT g5))(c0:C (w.drewN 1))(l1: ∀u,C u->Lp 35 (pT wp) (pT gh) u)(l2: ∀u,C u->Lp 3 (pF g3 3) (ii ac) u)(l3: ∀u,C u->Lp 3 (pF g3 2) (ii ab) u)(k4:Cl 10 #[ii ac,ii 9] (w.drewN 1) (ii (p:Int)) C0)(c5: ∀(w1:World),C0 w1->C w1)(k6: ∀(w1:World),C0 w1->Cl 22 #[pT wp,ii ab] w1 (.agg (x.cs mx)) C1)(c7: ∀(w1:World),C0 w1->∀(w2:World),C1 w2->C w2)(c8: ∀(w1:World),C0 w1->∀(w2:World),C1 w2->C (w2.alloc (.cells (x.cs mx) 53)))(k9: ∀(w1:World),C0 w1->∀(w2:World),C1 w2->Ca 63 #[pT gh,ii (p:Int),.slice bd bn bc,.slice (some ⟨w2.heap.size,0,none⟩) 1 1] (w2.alloc (.cells (x.cs mx) 53)) fun e w'=> ∃er:Value,e=.returned (.tuple #[.agg (y.cs my),er])/\C2 er w')(c10: ∀(w1:World),C0 w1->∀(w2:World),C1 w2->∀(er:Value) (w3:World),C2 er w3->C w3)(s11: ∀(w1:World),C0 w1->∀(w2:World),C1 w2->∀(er:Value) (w3:World),C2 er w3->So 53 g5 0 (.agg (y.cs my)) w3 (y.cs my).toList)(c12: ∀(w1:World),C0 w1->∀(w2:World),C1 w2->∀(er:Value) (w3:World),C2 er w3->C (w3.setCells g5 0 (y.cs my).toList))
  (hN0: ∀a' (w1:World) (w2:World) (er:Value) (w3:World),C0 w1->C1 w2->C2 er w3->Sl 115 a' (A6 (List.range' 97 17) l) df->N a' (w3.setCells g5 0 (y.cs my).toList)):Rg N Q a w (P4 18):=
 Cd4 (.rd 0 (.rd 1 (.rd 2 (.rd 3 (.rd 4 (.rd 5 (.rd 7 (.rd 8 (.rd 9 (.rd 10 (.e1 6 (.e1 11 (.e1 12 (.e1 13 (.rd 14 (.rd 15 (.rd 16 (.e1 17 .fin)))))))))))))))))) C [] (List.range' 97 17) [.val (pT gh),.val (ii ac),.val (ii ab),.ret (ii (p:Int)) C0,.ret (.agg (x.cs mx)) C1,.raw,.ex (Value) (fun er=>.tuple #[.agg (y.cs my),er]) C2,.sto] hs (Zc e0<|Zc e3<|Zc e8<|Zc e5 Zz) (aI c0 (aI c0 (aI c0 (aI c0 (aI (fun u hu=>(l1 u hu).run) (aI c0 (aI c0 (aI (fun u hu=>(l2 u hu).run) (aI c0 (aI c0 (aI c0 (aI c0 (aI (fun u hu=>(l3 u hu).run) (aI c0 (aI k4 (fun(w1:World) (hc0:C0 w1)=>(aI (c5 w1 hc0) (aI (k6 w1 hc0) (fun(w2:World) (hc1:C1 w2)=>(aI (c7 w1 hc0 w2 hc1) (aI (c8 w1 hc0 w2 hc1) (aI (k9 w1 hc0 w2 hc1) (fun(er:Value) (w3:World) (hc2:C2 er w3)=>(aI (c10 w1 hc0 w2 hc1 er w3 hc2) (aI (c10 w1 hc0 w2 hc1 er w3 hc2) (aI (c10 w1 hc0 w2 hc1 er w3 hc2) (aI (c10 w1 hc0 w2 hc1 er w3 hc2) (aI (s11 w1 hc0 w2 hc1 er w3 hc2) (aI (c12 w1 hc0 w2 hc1 er w3 hc2) (fun a'=>hN0 a' w1 w2 er w3 hc0 hc1 hc2)))))))))))))))))))))))))))))) Zk
theorem Cx7{d114:Dt}{m114:Dm}(hs:Sl 115 a l df)(e5:Lk l 5 (pT g5))(e4:Lk l 4 (pT g4))(l0:Lp 53 (pT g5) (.agg (d114.cs m114)) w)(s1:So 53 g4 0 (.agg (d114.cs m114)) w (d114.cs m114).toList)
  (hN: ∀a',Sl 115 a' (A6 [114] l) df->N a' (w.setCells g4 0 (d114.cs m114).toList)):Rg N Q a w (P4 19):=
 reg [] [114] [.val (.agg (d114.cs m114)),.sto] hs (Zc e5<|Zc e4 Zz) (aI l0.run (aI s1 hN)) Zk
noncomputable def M1 (n:Nat):Code:=((Tryz.f26.body.bind (D4 n)).getD .skip)
noncomputable def Ba9:Code:=(.seq (M1 0) (.seq (.seq (M1 1) (.cond (.tmp 16) (.seq (M1 2) (.seq (M1 3) (.seq (M1 4) .ret))) .skip)) (.seq (M1 5) (.seq (M1 6) (.seq (M1 7) (.seq (M1 8) (.block 0 (.seq (M1 9) (.cond (.tmp 58) (M1 10) (.seq (M1 11) (.cond (.tmp 83) (M1 12) (.seq (M1 13) (.cond (.tmp 112) (M1 14) (.seq (M1 15) (.cond (.tmp 130) (M1 16) (.seq (M1 17) (.cond (.tmp 157) (M1 18) .skip)))))))))))))))))
theorem Br2:Tryz.f26.body=some Ba9:=by kernel_rfl
theorem En2(hs:Sl 183 a l df)(e1:Lk l 1 (.agg #[ii ak,ii aa,ii ab,ii ac]))
  (hN: ∀a',Sl 183 a' ((3,pT w.heap.size)::A6 [3] l) df->N a' (w.alloc (.cells #[ii ak,ii aa,ii ab,ii ac] 59))):Rg N Q a w (M1 0):=
 reg [3] [3] [.raw] hs (Zc e1 Zz) hN Zk
theorem Xf(hs:Sl 183 a l df)(e3:Lk l 3 (pT g3))(l0:Lp 3 (pT g3) (ii k) w)(h1:decide ((1:Int)<=k)=true)(h2:decide (k<=5)=b15)
  (hN: ∀a',Sl 183 a' ((16,.bool b15)::A6 (List.range' 9 8) l) df->N a' w):Rg N Q a w (M1 1):=
 reg [16] (List.range' 9 8) [.val (ii k),.bit true,.val (ii k),.bit b15] hs (Zc e3 Zz) (aI l0.run (aI h1 (aI l0.run (aI h2 hN)))) Zk
theorem Br3(hs:Sl 183 a l df)(e3:Lk l 3 (pT g3))(l0:Lp 3 (pT g3) (ii k) w)(h1:decide ((1:Int)<=k)=false)
  (hN: ∀a',Sl 183 a' ((16,.bool false)::A6 (List.range' 9 8) l) df->N a' w):Rg N Q a w (M1 1):=
 reg [16] (List.range' 9 8) [.val (ii k),.bit false] hs (Zc e3 Zz) (aI l0.run (aI h1 hN)) Zk
theorem En3(hs:Sl 183 a l df)(e0:Lk l 0 (pT wp))(e3:Lk l 3 (pT g3))(l0:Lp 59 (pT g3) (.agg #[ii ak,ii aa,ii ab,ii ac]) w)(k1:Cl 43 #[pT wp,.agg #[ii ak,ii aa,ii ab,ii ac]] w (.agg (y.cs my)) C0)(s2: ∀(w1:World),C0 w1->So 53 w1.heap.size 0 (.agg (y.cs my)) (w1.alloc (.cells zA 53)) (y.cs my).toList)
  (hN: ∀a' (w1:World),C0 w1->Sl 183 a' ((4,pT w1.heap.size)::A6 [4,17,18,19] l) df->N a' ((w1.alloc (.cells zA 53)).setCells w1.heap.size 0 (y.cs my).toList)):Rg N Q a w (M1 2):=
 reg [4] [4,17,18,19] [.val (.agg #[ii ak,ii aa,ii ab,ii ac]),.ret (.agg (y.cs my)) C0,.raw,.sto] hs (Zc e0<|Zc e3 Zz) (aI l0.run (aI k1 (fun(w1:World) (hc0:C0 w1)=>(aI (s2 w1 hc0) (fun a'=>hN a' w1 hc0))))) Zk
theorem En4{gx:Nat}{C0:World->Nat->World->Prop}(hs:Sl 183 a l df)(e0:Lk l 0 (pT wp))(e4:Lk l 4 (pT g4))(c0:C (w.drewN 1))(l1: ∀u,C u->Lp 53 (pT g4) (.agg (y.cs my)) u)(l2:Lp 23 (pF wp 1) (.slice dd dn dc) (w.drewN 1))(c3:C ((w.drewN 1).alloc (.cells zA 53)))(k4: ∀ty,∃(v:Nat) (w':World),(Builtin.append_ #[23,23] ty #[.slice dd dn dc,.slice (some ⟨(w.drewN 1).heap.size,0,none⟩) 1 1]).run Tryz.prog ((w.drewN 1).alloc (.cells zA 53))=.ok (.slice (some ⟨gx,0,none⟩) (dn+1) v) w'/\C0 ((w.drewN 1).alloc (.cells zA 53)) v w')(c5: ∀(x27:Nat) (w1:World),C0 ((w.drewN 1).alloc (.cells zA 53)) x27 w1->C w1)(i6: ∀(x27:Nat) (w1:World),C0 ((w.drewN 1).alloc (.cells zA 53)) x27 w1->Ix 23 (.slice (some ⟨gx,0,none⟩) (dn+1) x27) (ii (dn:Int)) (pF gx (dn*11)))(s7: ∀(x27:Nat) (w1:World),C0 ((w.drewN 1).alloc (.cells zA 53)) x27 w1->So 53 gx (dn*11) (.agg (y.cs my)) w1 (y.cs my).toList)(c8: ∀(x27:Nat) (w1:World),C0 ((w.drewN 1).alloc (.cells zA 53)) x27 w1->C (w1.setCells gx (dn*11) (y.cs my).toList))(s9: ∀(x27:Nat) (w1:World),C0 ((w.drewN 1).alloc (.cells zA 53)) x27 w1->So 23 wp 1 (.slice (some ⟨gx,0,none⟩) (dn+1) x27) (w1.setCells gx (dn*11) (y.cs my).toList) [.slice (some ⟨gx,0,none⟩) (dn+1) x27])(c10: ∀(x27:Nat) (w1:World),C0 ((w.drewN 1).alloc (.cells zA 53)) x27 w1->C ((w1.setCells gx (dn*11) (y.cs my).toList).setCells wp 1 [.slice (some ⟨gx,0,none⟩) (dn+1) x27]))(s11: ∀(x27:Nat) (w1:World),C0 ((w.drewN 1).alloc (.cells zA 53)) x27 w1->So 23 wp 1 (.slice (some ⟨gx,0,none⟩) (dn+1) x27) w1 [.slice (some ⟨gx,0,none⟩) (dn+1) x27])(c12: ∀(x27:Nat) (w1:World),C0 ((w.drewN 1).alloc (.cells zA 53)) x27 w1->C (w1.setCells wp 1 [.slice (some ⟨gx,0,none⟩) (dn+1) x27]))(s13: ∀(x27:Nat) (w1:World),C0 ((w.drewN 1).alloc (.cells zA 53)) x27 w1->So 53 gx (dn*11) (.agg (y.cs my)) (w1.setCells wp 1 [.slice (some ⟨gx,0,none⟩) (dn+1) x27]) (y.cs my).toList)(c14: ∀(x27:Nat) (w1:World),C0 ((w.drewN 1).alloc (.cells zA 53)) x27 w1->C ((w1.setCells wp 1 [.slice (some ⟨gx,0,none⟩) (dn+1) x27]).setCells gx (dn*11) (y.cs my).toList))(l15:Lp 23 (pF wp 1) (.slice dd dn dc) ((w.drewN 1).alloc (.cells zA 53)))
  (hN0: ∀a' (x27:Nat) (w1:World),C0 ((w.drewN 1).alloc (.cells zA 53)) x27 w1->Sl 183 a' (A6 (List.range' 20 11) l) df->N a' ((w1.setCells gx (dn*11) (y.cs my).toList).setCells wp 1 [.slice (some ⟨gx,0,none⟩) (dn+1) x27]))
  (hN1: ∀a' (x27:Nat) (w1:World),C0 ((w.drewN 1).alloc (.cells zA 53)) x27 w1->Sl 183 a' (A6 (List.range' 20 11) l) df->N a' ((w1.setCells wp 1 [.slice (some ⟨gx,0,none⟩) (dn+1) x27]).setCells gx (dn*11) (y.cs my).toList)):Rg N Q a w (M1 3):=
 Cd4 (.rd 0 (.rd 1 (.rd 2 (.rd 4 (.e2 3 (.rd 5 (.e1 6 (.e1 7 (.rd 8 (.rd 10 (.rd 11 (.e2 9 (.e1 12 .fin) 12 [.sto,.sto] (.e1 9 .fin)))))))) 6 [.raw,.val (.slice dd dn dc),.apxw Nat (fun c=>.slice (some ⟨gx,0,none⟩) (dn+1) c) C0,.val (pF gx (dn*11)),.sto,.sto] (.e1 3 (.rd 5 (.e1 7 (.rd 8 (.rd 10 (.rd 11 (.e2 9 (.e1 12 .fin) 12 [.sto,.sto] (.e1 9 .fin))))))))))))) C [] (List.range' 20 11) [.val (.agg (y.cs my)),.val (.slice dd dn dc),.raw,.apxw Nat (fun c=>.slice (some ⟨gx,0,none⟩) (dn+1) c) C0,.val (pF gx (dn*11)),.sto,.sto] hs (Zc e0<|Zc e4 Zz) (aI c0 (aI c0 (aI c0 (aI c0 (aI (fun u hu=>(l1 u hu).run) (aI c0 (aI (aI l2.run (aI c0 (aI c0 (aI c3 (aI k4 (fun(x27:Nat) (w1:World) (hc0:C0 ((w.drewN 1).alloc (.cells zA 53)) x27 w1)=>(aI (c5 x27 w1 hc0) (aI (i6 x27 w1 hc0) (aI (c5 x27 w1 hc0) (aI (c5 x27 w1 hc0) (aI (c5 x27 w1 hc0) (aI (aI (s7 x27 w1 hc0) (aI (c8 x27 w1 hc0) (aI (s9 x27 w1 hc0) (aI (c10 x27 w1 hc0) (fun a'=>hN0 a' x27 w1 hc0))))) (aI (s11 x27 w1 hc0) (aI (c12 x27 w1 hc0) (aI (s13 x27 w1 hc0) (aI (c14 x27 w1 hc0) (fun a'=>hN1 a' x27 w1 hc0))))))))))))))))) (aI c3 (aI l15.run (aI c3 (aI c3 (aI k4 (fun(x27:Nat) (w1:World) (hc0:C0 ((w.drewN 1).alloc (.cells zA 53)) x27 w1)=>(aI (c5 x27 w1 hc0) (aI (i6 x27 w1 hc0) (aI (c5 x27 w1 hc0) (aI (c5 x27 w1 hc0) (aI (c5 x27 w1 hc0) (aI (aI (s7 x27 w1 hc0) (aI (c8 x27 w1 hc0) (aI (s9 x27 w1 hc0) (aI (c10 x27 w1 hc0) (fun a'=>hN0 a' x27 w1 hc0))))) (aI (s11 x27 w1 hc0) (aI (c12 x27 w1 hc0) (aI (s13 x27 w1 hc0) (aI (c14 x27 w1 hc0) (fun a'=>hN1 a' x27 w1 hc0)))))))))))))))))))))))) Zk
theorem En5{C0:World->S3->World->Prop}(hs:Sl 183 a l df)(e0:Lk l 0 (pT wp))(e3:Lk l 3 (pT g3))(c0:C (w.drewN 1))(l1: ∀u,C u->Lp 3 (pT g3) (ii k) u)(l2:Lp 24 (pF wp 2) (.slice kd kn kc) (w.drewN 1))(c3:C ((w.drewN 1).alloc (.cells #[ii k] 3)))(k4: ∀ty,∃v w',(Builtin.append_ #[24,24] ty #[.slice kd kn kc,.slice (some ⟨(w.drewN 1).heap.size,0,none⟩) 1 1]).run Tryz.prog ((w.drewN 1).alloc (.cells #[ii k] 3))=.ok v.v w'/\C0 ((w.drewN 1).alloc (.cells #[ii k] 3)) v w')(c5: ∀(x39:S3) (w1:World),C0 ((w.drewN 1).alloc (.cells #[ii k] 3)) x39 w1->C w1)(s6: ∀(x39:S3) (w1:World),C0 ((w.drewN 1).alloc (.cells #[ii k] 3)) x39 w1->So 24 wp 2 (.slice x39.d x39.n x39.c) w1 [.slice x39.d x39.n x39.c])(c7: ∀(x39:S3) (w1:World),C0 ((w.drewN 1).alloc (.cells #[ii k] 3)) x39 w1->C (w1.setCells wp 2 [.slice x39.d x39.n x39.c]))(l8:Lp 24 (pF wp 2) (.slice kd kn kc) ((w.drewN 1).alloc (.cells #[ii k] 3)))
  (hN0: ∀a' (x39:S3) (w1:World),C0 ((w.drewN 1).alloc (.cells #[ii k] 3)) x39 w1->Sl 183 a' (A6 (List.range' 31 11) l) df->N a' (w1.setCells wp 2 [.slice x39.d x39.n x39.c])):Rg N Q a w (M1 4):=
 Cd4 (.rd 0 (.rd 1 (.rd 2 (.rd 3 (.rd 5 (.rd 6 (.e2 4 (.e1 7 (.e1 8 (.rd 9 (.rd 10 (.e1 11 .fin))))) 7 [.raw,.val (.slice kd kn kc),.apxw S3 S3.v C0,.sto] (.e1 4 (.e1 8 (.rd 9 (.rd 10 (.e1 11 .fin)))))))))))) C [] (List.range' 31 11) [.val (ii k),.val (.slice kd kn kc),.raw,.apxw S3 S3.v C0,.sto] hs (Zc e0<|Zc e3 Zz) (aI c0 (aI c0 (aI c0 (aI c0 (aI c0 (aI c0 (aI (fun u hu=>(l1 u hu).run) (aI c0 (aI (aI l2.run (aI c0 (aI c3 (aI k4 (fun(x39:S3) (w1:World) (hc0:C0 ((w.drewN 1).alloc (.cells #[ii k] 3)) x39 w1)=>(aI (c5 x39 w1 hc0) (aI (c5 x39 w1 hc0) (aI (c5 x39 w1 hc0) (aI (s6 x39 w1 hc0) (aI (c7 x39 w1 hc0) (fun a'=>hN0 a' x39 w1 hc0))))))))))) (aI c3 (aI l8.run (aI c3 (aI k4 (fun(x39:S3) (w1:World) (hc0:C0 ((w.drewN 1).alloc (.cells #[ii k] 3)) x39 w1)=>(aI (c5 x39 w1 hc0) (aI (c5 x39 w1 hc0) (aI (c5 x39 w1 hc0) (aI (s6 x39 w1 hc0) (aI (c7 x39 w1 hc0) (fun a'=>hN0 a' x39 w1 hc0)))))))))))))))))))) Zk
theorem En6(hs:Sl 183 a l df)(e0:Lk l 0 (pT wp))(e3:Lk l 3 (pT g3))(l0:Lp 3 (pF g3 1) (ii aa) w)(k1:Cl 44 #[pT wp,ii aa,ii 2] w (ii (n:Int)) C0)
  (hN: ∀a' (w1:World),C0 w1->Sl 183 a' ((5,ii (n:Int))::A6 [5,42,43,44,45] l) df->N a' w1):Rg N Q a w (M1 5):=
 reg [5] [5,42,43,44,45] [.val (ii aa),.ret (ii (n:Int)) C0] hs (Zc e0<|Zc e3 Zz) (aI l0.run (aI k1 (fun(w1:World) (hc0:C0 w1)a'=>hN a' w1 hc0))) Zk
theorem En7(hs:Sl 183 a l df)(e0:Lk l 0 (pT wp))(e3:Lk l 3 (pT g3))(l0:Lp 3 (pF g3 1) (ii aa) w)(k1:Cl 44 #[pT wp,ii aa,ii 3] w (ii (n:Int)) C0)
  (hN: ∀a' (w1:World),C0 w1->Sl 183 a' ((6,ii (n:Int))::A6 [6,46,47,48,49] l) df->N a' w1):Rg N Q a w (M1 6):=
 reg [6] [6,46,47,48,49] [.val (ii aa),.ret (ii (n:Int)) C0] hs (Zc e0<|Zc e3 Zz) (aI l0.run (aI k1 (fun(w1:World) (hc0:C0 w1)a'=>hN a' w1 hc0))) Zk
theorem En8(hs:Sl 183 a l df)(e0:Lk l 0 (pT wp))(e3:Lk l 3 (pT g3))(l0:Lp 3 (pF g3 1) (ii aa) w)(k1:Cl 44 #[pT wp,ii aa,ii 4] w (ii (n:Int)) C0)
  (hN: ∀a' (w1:World),C0 w1->Sl 183 a' ((7,ii (n:Int))::A6 [7,50,51,52,53] l) df->N a' w1):Rg N Q a w (M1 7):=
 reg [7] [7,50,51,52,53] [.val (ii aa),.ret (ii (n:Int)) C0] hs (Zc e0<|Zc e3 Zz) (aI l0.run (aI k1 (fun(w1:World) (hc0:C0 w1)a'=>hN a' w1 hc0))) Zk
theorem En9(hs:Sl 183 a l df)(e0:Lk l 0 (pT wp))(e3:Lk l 3 (pT g3))(l0:Lp 3 (pF g3 1) (ii aa) w)(k1:Cl 44 #[pT wp,ii aa,ii 1] w (ii (n:Int)) C0)
  (hN: ∀a' (w1:World),C0 w1->Sl 183 a' ((8,ii (n:Int))::A6 [8,54,55,56,57] l) df->N a' w1):Rg N Q a w (M1 8):=
 reg [8] [8,54,55,56,57] [.val (ii aa),.ret (ii (n:Int)) C0] hs (Zc e0<|Zc e3 Zz) (aI l0.run (aI k1 (fun(w1:World) (hc0:C0 w1)a'=>hN a' w1 hc0))) Zk
theorem Xg{b64:Bool}(hs:Sl 183 a l df)(e3:Lk l 3 (pT g3))(e5:Lk l 5 (ii (n5:Int)))(l0:Lp 3 (pT g3) (ii k) w)(h1:decide (k=6)=true)(h2:decide ((0:Int)<(n5:Int))=b64)
  (hN: ∀a',Sl 183 a' ((58,.bool b64)::A6 (List.range' 58 8) l) df->N a' w):Rg N Q a w (M1 9):=
 reg [58] (List.range' 58 8) [.val (ii k),.bit true,.bit b64] hs (Zc e3<|Zc e5 Zz) (aI l0.run (aI h1 (aI h2 hN))) Zk
theorem Br4(hs:Sl 183 a l df)(e3:Lk l 3 (pT g3))(l0:Lp 3 (pT g3) (ii k) w)(h1:decide (k=6)=false)
  (hN: ∀a',Sl 183 a' ((58,.bool false)::A6 (List.range' 58 8) l) df->N a' w):Rg N Q a w (M1 9):=
 reg [58] (List.range' 58 8) [.val (ii k),.bit false] hs (Zc e3 Zz) (aI l0.run (aI h1 hN)) Zk
theorem Cx8{g76 o76:Nat}{C1:Value->World->Prop}(hs:Sl 183 a l df)(e0:Lk l 0 (pT wp))(e5:Lk l 5 (ii (n5:Int)))(e3:Lk l 3 (pT g3))(c0:C (w.drewN 1))(l1: ∀u,C u->Lp 35 (pT wp) (pT gh) u)(l2: ∀u,C u->Lp 23 (pF wp 1) (.slice dd dn dc) u)(h3: -9223372036854775808<=(n5:Int)-1/\(n5:Int)-1<=9223372036854775807)(i4:Ix 23 (.slice dd dn dc) (ii ((n5:Int)-1)) (pF g76 o76))(l5: ∀u,C u->Lp 53 (pF g76 o76) (.agg (x.cs mx)) u)(l6: ∀u,C u->Lp 3 (pF g3 2) (ii ab) u)(k7:Cl 22 #[pT wp,ii ab] (w.drewN 1) (.agg (y.cs my)) C0)(c8: ∀(w1:World),C0 w1->C w1)(k9: ∀(w1:World),C0 w1->Ca 45 #[pT gh,.agg (x.cs mx),ii 0,.agg (y.cs my)] w1 fun e w'=> ∃x82,e=.returned x82/\C1 x82 w')
  (hN: ∀a' (w1:World) (x82:Value) (w2:World),C0 w1->C1 x82 w2->Sl 183 a' (A6 (List.range' 66 17) l) df->N a' w2):Rg N Q a w (M1 10):=
 Sq 16 [(true,0),(true,1),(true,2),(true,3),(true,4),(true,5),(true,6),(true,7),(true,8),(true,9),(true,10),(true,11),(true,12),(true,13),(true,14),(false,15)] C [] (List.range' 66 17) [.val (pT gh),.val (.slice dd dn dc),.ari,.val (pF g76 o76),.val (.agg (x.cs mx)),.val (ii ab),.ret (.agg (y.cs my)) C0,.con C1] hs (Zc e0<|Zc e5<|Zc e3 Zz) (aI c0 (aI c0 (aI c0 (aI c0 (aI (fun u hu=>(l1 u hu).run) (aI c0 (aI c0 (aI c0 (aI c0 (aI (fun u hu=>(l2 u hu).run) (aI c0 (aI c0 (aI h3 (aI c0 (aI i4 (aI c0 (aI (fun u hu=>(l5 u hu).run) (aI c0 (aI c0 (aI c0 (aI (fun u hu=>(l6 u hu).run) (aI c0 (aI k7 (fun(w1:World) (hc0:C0 w1)=>(aI (c8 w1 hc0) (aI (k9 w1 hc0) (fun(x82:Value) (w2:World) (hc1:C1 x82 w2)a'=>hN a' w1 x82 w2 hc0 hc1))))))))))))))))))))))))))) Zk
theorem On{b89:Bool}(hs:Sl 183 a l df)(e3:Lk l 3 (pT g3))(e6:Lk l 6 (ii (n6:Int)))(l0:Lp 3 (pT g3) (ii k) w)(h1:decide (k=7)=true)(h2:decide ((0:Int)<(n6:Int))=b89)
  (hN: ∀a',Sl 183 a' ((83,.bool b89)::A6 (List.range' 83 8) l) df->N a' w):Rg N Q a w (M1 11):=
 reg [83] (List.range' 83 8) [.val (ii k),.bit true,.bit b89] hs (Zc e3<|Zc e6 Zz) (aI l0.run (aI h1 (aI h2 hN))) Zk
theorem Al5(hs:Sl 183 a l df)(e3:Lk l 3 (pT g3))(l0:Lp 3 (pT g3) (ii k) w)(h1:decide (k=7)=false)
  (hN: ∀a',Sl 183 a' ((83,.bool false)::A6 (List.range' 83 8) l) df->N a' w):Rg N Q a w (M1 11):=
 reg [83] (List.range' 83 8) [.val (ii k),.bit false] hs (Zc e3 Zz) (aI l0.run (aI h1 hN)) Zk
theorem Cx9{g101 o101:Nat}(hs:Sl 183 a l df)(e0:Lk l 0 (pT wp))(e6:Lk l 6 (ii (n6:Int)))(e3:Lk l 3 (pT g3))(c0:C (w.drewN 1))(l1: ∀u,C u->Lp 35 (pT wp) (pT gh) u)(l2: ∀u,C u->Lp 23 (pF wp 1) (.slice dd dn dc) u)(h3: -9223372036854775808<=(n6:Int)-1/\(n6:Int)-1<=9223372036854775807)(i4:Ix 23 (.slice dd dn dc) (ii ((n6:Int)-1)) (pF g101 o101))(l5: ∀u,C u->Lp 53 (pF g101 o101) (.agg (x.cs mx)) u)(l6: ∀u,C u->Lp 3 (pF g3 3) (ii ac) u)(l7: ∀u,C u->Lp 3 (pF g3 2) (ii ab) u)(k8:Cl 22 #[pT wp,ii ac] (w.drewN 1) (.agg (y.cs my)) C0)(c9: ∀(w1:World),C0 w1->C w1)(k10: ∀(w1:World),C0 w1->Cl 22 #[pT wp,ii ab] w1 (.agg (z.cs mz)) C1)(c11: ∀(w1:World),C0 w1->∀(w2:World),C1 w2->C w2)(k12: ∀(w1:World),C0 w1->∀(w2:World),C1 w2->Ca 46 #[pT gh,.agg (x.cs mx),.agg (y.cs my),.agg (z.cs mz)] w2 fun e w'=> ∃x111,e=.returned x111/\C2 x111 w')
  (hN: ∀a' (w1:World) (w2:World) (x111:Value) (w3:World),C0 w1->C1 w2->C2 x111 w3->Sl 183 a' (A6 (List.range' 91 21) l) df->N a' w3):Rg N Q a w (M1 12):=
 Sq 20 [(true,0),(true,1),(true,2),(true,3),(true,4),(true,5),(true,6),(true,7),(true,8),(true,9),(true,10),(true,11),(true,12),(true,13),(true,14),(true,16),(true,17),(true,18),(false,15),(false,19)] C [] (List.range' 91 21) [.val (pT gh),.val (.slice dd dn dc),.ari,.val (pF g101 o101),.val (.agg (x.cs mx)),.val (ii ac),.val (ii ab),.ret (.agg (y.cs my)) C0,.ret (.agg (z.cs mz)) C1,.con C2] hs (Zc e0<|Zc e6<|Zc e3 Zz) (aI c0 (aI c0 (aI c0 (aI c0 (aI (fun u hu=>(l1 u hu).run) (aI c0 (aI c0 (aI c0 (aI c0 (aI (fun u hu=>(l2 u hu).run) (aI c0 (aI c0 (aI h3 (aI c0 (aI i4 (aI c0 (aI (fun u hu=>(l5 u hu).run) (aI c0 (aI c0 (aI c0 (aI (fun u hu=>(l6 u hu).run) (aI c0 (aI c0 (aI c0 (aI (fun u hu=>(l7 u hu).run) (aI c0 (aI k8 (fun(w1:World) (hc0:C0 w1)=>(aI (c9 w1 hc0) (aI (k10 w1 hc0) (fun(w2:World) (hc1:C1 w2)=>(aI (c11 w1 hc0 w2 hc1) (aI (k12 w1 hc0 w2 hc1) (fun(x111:Value) (w3:World) (hc2:C2 x111 w3)a'=>hN a' w1 w2 x111 w3 hc0 hc1 hc2)))))))))))))))))))))))))))))))))) Zk
theorem Oo{b118:Bool}(hs:Sl 183 a l df)(e3:Lk l 3 (pT g3))(e7:Lk l 7 (ii (n7:Int)))(l0:Lp 3 (pT g3) (ii k) w)(h1:decide (k=8)=true)(h2:decide ((0:Int)<(n7:Int))=b118)
  (hN: ∀a',Sl 183 a' ((112,.bool b118)::A6 (List.range' 112 8) l) df->N a' w):Rg N Q a w (M1 13):=
 reg [112] (List.range' 112 8) [.val (ii k),.bit true,.bit b118] hs (Zc e3<|Zc e7 Zz) (aI l0.run (aI h1 (aI h2 hN))) Zk
theorem Al6(hs:Sl 183 a l df)(e3:Lk l 3 (pT g3))(l0:Lp 3 (pT g3) (ii k) w)(h1:decide (k=8)=false)
  (hN: ∀a',Sl 183 a' ((112,.bool false)::A6 (List.range' 112 8) l) df->N a' w):Rg N Q a w (M1 13):=
 reg [112] (List.range' 112 8) [.val (ii k),.bit false] hs (Zc e3 Zz) (aI l0.run (aI h1 hN)) Zk
theorem Cy0{C1:Value->World->Prop}(hs:Sl 183 a l df)(e0:Lk l 0 (pT wp))(e7:Lk l 7 (ii (n7:Int)))(e3:Lk l 3 (pT g3))(c0:C (w.drewN 1))(l1: ∀u,C u->Lp 35 (pT wp) (pT gh) u)(l2: ∀u,C u->Lp 3 (pF g3 2) (ii ab) u)(k3:Cl 22 #[pT wp,ii ab] (w.drewN 1) (.agg (y.cs my)) C0)(c4: ∀(w1:World),C0 w1->C w1)(k5: ∀(w1:World),C0 w1->Ca 47 #[pT gh,ii (n7:Int),.agg (y.cs my)] w1 fun e w'=> ∃x129,e=.returned x129/\C1 x129 w')
  (hN: ∀a' (w1:World) (x129:Value) (w2:World),C0 w1->C1 x129 w2->Sl 183 a' (A6 (List.range' 120 10) l) df->N a' w2):Rg N Q a w (M1 14):=
 Sq 9 [(true,0),(true,1),(true,2),(true,3),(true,4),(true,5),(true,6),(true,7),(false,8)] C [] (List.range' 120 10) [.val (pT gh),.val (ii ab),.ret (.agg (y.cs my)) C0,.con C1] hs (Zc e0<|Zc e7<|Zc e3 Zz) (aI c0 (aI c0 (aI c0 (aI c0 (aI (fun u hu=>(l1 u hu).run) (aI c0 (aI c0 (aI c0 (aI c0 (aI (fun u hu=>(l2 u hu).run) (aI c0 (aI k3 (fun(w1:World) (hc0:C0 w1)=>(aI (c4 w1 hc0) (aI (k5 w1 hc0) (fun(x129:Value) (w2:World) (hc1:C1 x129 w2)a'=>hN a' w1 x129 w2 hc0 hc1)))))))))))))))) Zk
theorem Oq{b136:Bool}(hs:Sl 183 a l df)(e3:Lk l 3 (pT g3))(e8:Lk l 8 (ii (n8:Int)))(l0:Lp 3 (pT g3) (ii k) w)(h1:decide (k=9)=true)(h2:decide ((0:Int)<(n8:Int))=b136)
  (hN: ∀a',Sl 183 a' ((130,.bool b136)::A6 (List.range' 130 8) l) df->N a' w):Rg N Q a w (M1 15):=
 reg [130] (List.range' 130 8) [.val (ii k),.bit true,.bit b136] hs (Zc e3<|Zc e8 Zz) (aI l0.run (aI h1 (aI h2 hN))) Zk
theorem Al7(hs:Sl 183 a l df)(e3:Lk l 3 (pT g3))(l0:Lp 3 (pT g3) (ii k) w)(h1:decide (k=9)=false)
  (hN: ∀a',Sl 183 a' ((130,.bool false)::A6 (List.range' 130 8) l) df->N a' w):Rg N Q a w (M1 15):=
 reg [130] (List.range' 130 8) [.val (ii k),.bit false] hs (Zc e3 Zz) (aI l0.run (aI h1 hN)) Zk
theorem Cy1{g148 o148:Nat}{C0:Dm->World->Prop}{C1:Value->World->Prop}(hs:Sl 183 a l df)(e0:Lk l 0 (pT wp))(e8:Lk l 8 (ii (n8:Int)))(e3:Lk l 3 (pT g3))(c0:C (w.drewN 1))(l1: ∀u,C u->Lp 35 (pT wp) (pT gh) u)(l2: ∀u,C u->Lp 23 (pF wp 1) (.slice dd dn dc) u)(h3: -9223372036854775808<=(n8:Int)-1/\(n8:Int)-1<=9223372036854775807)(i4:Ix 23 (.slice dd dn dc) (ii ((n8:Int)-1)) (pF g148 o148))(l5: ∀u,C u->Lp 53 (pF g148 o148) (.agg (x.cs mx)) u)(l6: ∀u,C u->Lp 3 (pF g3 2) (ii ab) u)(l7: ∀u,C u->Lp 3 (pF g3 3) (ii ac) u)(k8:Ca 49 #[pT wp,ii ab,ii ac] (w.drewN 1) fun e w'=> ∃q:Dm,e=.returned (.agg (y.cs q))/\C0 q w')(c9: ∀(q:Dm) (w1:World),C0 q w1->C w1)(k10: ∀(q:Dm) (w1:World),C0 q w1->Ca 48 #[pT gh,.agg (x.cs mx),.agg (y.cs q)] w1 fun e w'=> ∃x156,e=.returned x156/\C1 x156 w')
  (hN: ∀a' (q:Dm) (w1:World) (x156:Value) (w2:World),C0 q w1->C1 x156 w2->Sl 183 a' (A6 (List.range' 138 19) l) df->N a' w2):Rg N Q a w (M1 16):=
 Sq 18 [(true,0),(true,1),(true,2),(true,3),(true,4),(true,5),(true,6),(true,7),(true,8),(true,9),(true,10),(true,11),(true,12),(true,13),(true,14),(true,15),(true,16),(false,17)] C [] (List.range' 138 19) [.val (pT gh),.val (.slice dd dn dc),.ari,.val (pF g148 o148),.val (.agg (x.cs mx)),.val (ii ab),.val (ii ac),.ex (Dm) (fun q=>.agg (y.cs q)) C0,.con C1] hs (Zc e0<|Zc e8<|Zc e3 Zz) (aI c0 (aI c0 (aI c0 (aI c0 (aI (fun u hu=>(l1 u hu).run) (aI c0 (aI c0 (aI c0 (aI c0 (aI (fun u hu=>(l2 u hu).run) (aI c0 (aI c0 (aI h3 (aI c0 (aI i4 (aI c0 (aI (fun u hu=>(l5 u hu).run) (aI c0 (aI c0 (aI c0 (aI (fun u hu=>(l6 u hu).run) (aI c0 (aI c0 (aI (fun u hu=>(l7 u hu).run) (aI c0 (aI k8 (fun(q:Dm) (w1:World) (hc0:C0 q w1)=>(aI (c9 q w1 hc0) (aI (k10 q w1 hc0) (fun(x156:Value) (w2:World) (hc1:C1 x156 w2)a'=>hN a' q w1 x156 w2 hc0 hc1)))))))))))))))))))))))))))))) Zk
theorem Ot{b167:Bool}(hs:Sl 183 a l df)(e3:Lk l 3 (pT g3))(e0:Lk l 0 (pT wp))(l0:Lp 3 (pT g3) (ii k) w)(h1:decide (k=10)=true)(l2:Lp 23 (pF wp 1) (.slice dd dn dc) w)(h3:decide ((0:Int)<(dn:Int))=b167)
  (hN: ∀a',Sl 183 a' ((157,.bool b167)::A6 (List.range' 157 12) l) df->N a' w):Rg N Q a w (M1 17):=
 reg [157] (List.range' 157 12) [.val (ii k),.bit true,.val (.slice dd dn dc),.bit b167] hs (Zc e3<|Zc e0 Zz) (aI l0.run (aI h1 (aI l2.run (aI h3 hN)))) Zk
theorem Al8(hs:Sl 183 a l df)(e3:Lk l 3 (pT g3))(l0:Lp 3 (pT g3) (ii k) w)(h1:decide (k=10)=false)
  (hN: ∀a',Sl 183 a' ((157,.bool false)::A6 (List.range' 157 12) l) df->N a' w):Rg N Q a w (M1 17):=
 reg [157] (List.range' 157 12) [.val (ii k),.bit false] hs (Zc e3 Zz) (aI l0.run (aI h1 hN)) Zk
theorem Cy2{C1:Value->World->Prop}(hs:Sl 183 a l df)(e0:Lk l 0 (pT wp))(e3:Lk l 3 (pT g3))(c0:C (w.drewN 1))(l1: ∀u,C u->Lp 35 (pT wp) (pT gh) u)(l2: ∀u,C u->Lp 3 (pF g3 1) (ii aa) u)(l3: ∀u,C u->Lp 23 (pF wp 1) (.slice dd dn dc) u)(k4:Cl 10 #[ii aa,ii (dn:Int)] (w.drewN 1) (ii (p:Int)) C0)(c5: ∀(w1:World),C0 w1->C w1)(h6: -9223372036854775808<=(1:Int)+(p:Int)/\(1:Int)+(p:Int)<=9223372036854775807)(k7: ∀(w1:World),C0 w1->Ca 36 #[pT gh,ii ((1:Int)+(p:Int))] w1 fun e w'=> ∃x182,e=.returned x182/\C1 x182 w')
  (hN: ∀a' (w1:World) (x182:Value) (w2:World),C0 w1->C1 x182 w2->Sl 183 a' (A6 (List.range' 169 14) l) df->N a' w2):Rg N Q a w (M1 18):=
 Sq 13 [(true,0),(true,1),(true,2),(true,3),(true,4),(true,5),(true,6),(true,7),(true,8),(true,9),(true,10),(false,11),(true,12)] C [] (List.range' 169 14) [.val (pT gh),.val (ii aa),.val (.slice dd dn dc),.ret (ii (p:Int)) C0,.ari,.con C1] hs (Zc e0<|Zc e3 Zz) (aI c0 (aI c0 (aI c0 (aI c0 (aI (fun u hu=>(l1 u hu).run) (aI c0 (aI c0 (aI (fun u hu=>(l2 u hu).run) (aI c0 (aI c0 (aI c0 (aI c0 (aI (fun u hu=>(l3 u hu).run) (aI c0 (aI c0 (aI k4 (fun(w1:World) (hc0:C0 w1)=>(aI (c5 w1 hc0) (aI h6 (aI (c5 w1 hc0) (aI (k7 w1 hc0) (fun(x182:Value) (w2:World) (hc1:C1 x182 w2)a'=>hN a' w1 x182 w2 hc0 hc1)))))))))))))))))))))) Zk
end Go.Proofs.YtbjegfpfmnleeaaGreatDoor
