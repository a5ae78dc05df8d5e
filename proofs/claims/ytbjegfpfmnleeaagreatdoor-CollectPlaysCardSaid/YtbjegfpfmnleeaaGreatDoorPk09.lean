/-
   Written by an AI agent.
-/
import Derived.Test.YtbjegfpfmnleeaaGreatDoorPk08
import Derived.Test.YtbjegfpfmnleeaaGreatDoorPk05
namespace Go.Proofs.YtbjegfpfmnleeaaGreatDoor
open Go.RowKit Go.Sort
theorem T8{h:Hd}{n:Nat}(hh:K9 h n=true):0<=h.kind/\h.kind<=9/\(h.kind=2\/h.kind=1\/h.n=0)/\(h.kind=4\/h.s.size=0)/\K8 h=true:=by
 simp only[K9,okB,Ad8,Aq1,Bool.and_eq_true,Bool.or_eq_true,decide_eq_true_iff] at hh
 obtain⟨⟨⟨⟨h1,_⟩,⟨⟨h2,h3⟩,_⟩,h4⟩,_⟩,_⟩:=hh
 exact⟨h1.1,h1.2,Zo,Zo,h2⟩
theorem T9{s:ByteArray}(h:s.size=0):s=emp:=by
 obtain⟨⟨l⟩⟩:=s
 have:l=[]:=List.eq_nil_of_length_eq_zero h
 subst this
 rfl
theorem Fj{h:Hd}(hn:K8 h=true)(h5:h.kind=5\/h.kind=6\/h.kind=7):h.type≠emp:=by
 intro e
 have hd:T5 h.type=false:=by rw[e];decide
 unfold K8 at hn
 rw[hd,e] at hn
 rcases h5 with h5 | h5 | h5<;>rw[h5] at hn<;>revert hn<;>decide
theorem U0{h:Hd}{k:Fo}(hr:G3 h k=true):K9 h k.len=true/\okF k=true:=by
 unfold G3 I8 at hr
 rw[if_neg Zd] at hr
 by_cases h1:K9 h k.len=false
 ·rw[if_pos h1] at hr;cases hr
 rw[if_neg h1,(Dh k _ Zd).1,Bool.and_eq_true] at hr
 exact⟨by revert h1;cases K9 h k.len<;>simp,hr.1⟩
theorem Ti{h h':Hd}(h2:(J1 h h').2≠emp):(J1 h h').1=false:=by
 unfold J1 at*
 by_cases h3:h.kind=3
 ·rw[if_pos h3] at h2;exact absurd rfl h2
 rw[if_neg h3] at h2 ⊢
 by_cases h5:h.kind=5\/h.kind=6\/h.kind=7
 ·rw[if_pos h5]
 rw[if_neg h5] at h2 ⊢
 by_cases h9:h.kind=9
 ·rw[if_pos h9] at h2;exact absurd rfl h2
 ·rw[if_neg h9] at h2;exact absurd rfl h2
theorem Iy: ∀(f g:Fo),(I1 f g).2≠emp->(I1 f g).1=false
 | .nil,g,h=>by simp[I1] at h
 | .cons h k r,.nil,e=>by simp[I1] at e
 | .cons h k r,.cons h' k' r',e=>by
  rw[K3] at e ⊢
  by_cases ht:(D8 h k h' k').1=true
  ·rw[if_pos ht] at e ⊢;exact Iy r r' e
  ·rw[if_neg ht]
theorem Tj{h h':Hd}{k k':Fo}(e:(D8 h k h' k').2≠emp):(D8 h k h' k').1=false:=by
 unfold D8 at*
 by_cases ho:U9 h h'=false
 ·rw[if_pos ho] at e ⊢
 rw[if_neg ho] at e ⊢
 by_cases h8:h.kind=8
 ·rw[if_pos h8] at e ⊢
  by_cases hl:k.len≠k'.len
  ·rw[if_pos hl] at e ⊢
  ·rw[if_neg hl] at e ⊢;exact Iy k k' e
 ·rw[if_neg h8] at e ⊢;exact Ti e
end Go.Proofs.YtbjegfpfmnleeaaGreatDoor
namespace Go.Proofs.YtbjegfpfmnleeaaGreatDoor
theorem T4(h:Hd):U9 h h=true:=by unfold U9;simp
end Go.Proofs.YtbjegfpfmnleeaaGreatDoor
namespace Go.Proofs.YtbjegfpfmnleeaaGreatDoor
open Go.RowKit Go.Sort
theorem Y8{h:Hd}{n:Nat}(hh:K9 h n=true):(h.kind=3\/h.f=0)/\(h.kind=5\/h.kind=6\/h.kind=7\/h.kind=9\/(h.obj=0/\h.path=[]))/\(n=0\/h.kind=8):=by
 simp only[K9,okB,Ad8,Bool.and_eq_true,Bool.or_eq_true,decide_eq_true_iff] at hh
 obtain⟨⟨⟨⟨h1,hl⟩,⟨⟨_,hf⟩,_⟩⟩,hn⟩,_⟩:=hh
 refine⟨?_, ?_,hn⟩
 ·rcases hf with h | ⟨h,_⟩
  ·exact .inr h
  ·exact .inl h
 by_cases h5:h.kind=5
 ·exact .inl h5
 by_cases h6:h.kind=6
 ·exact .inr (.inl h6)
 by_cases h7:h.kind=7
 ·exact .inr (.inr (.inl h7))
 by_cases h9:h.kind=9
 ·exact .inr (.inr (.inr (.inl h9)))
 refine .inr (.inr (.inr (.inr ?_)))
 unfold M6 at hl
 by_cases hob:h.obj<0\/2147483647<h.obj
 ·rw[if_pos hob] at hl;cases hl
 rw[if_neg hob,if_neg h5,if_neg Zo] at hl
 unfold Lf at hl
 rw[decide_eq_true_iff] at hl
 exact⟨hl.1,List.eq_nil_of_length_eq_zero (by have:=hl.2.2.2.2;omega)⟩
theorem Xd{a b:Nat}(h:Ih a b=true):Ep a=false/\Ep b=false/\Q6 a=Q6 b:=by
 unfold Ih at h
 rw[Bool.and_eq_true,Bool.and_eq_true,decide_eq_true_iff] at h
 exact⟨by simpa using h.1.1,by simpa using h.1.2,h.2⟩
theorem Xe{a b:Nat}(h1:Ep a=false)(h2:Ep b=false)(h3:Q6 a=Q6 b):Ih a b=true:=by
 unfold Ih;rw[h1,h2,decide_eq_true h3];rfl
theorem Ak9{a b:Int}(a0:0<=a)(a1:a<=18446744073709551615)(b0:0<=b)(b1:b<=18446744073709551615)(h:Ih a.toNat b.toNat=true):a=b\/(Ih a.toNat 0=true/\Ih b.toNat 0=true):=by
 obtain⟨n1,n2,hp⟩:=Xd h
 by_cases hz:Q6 a.toNat=0
 ·exact .inr ⟨Xe n1 Zd (by rw[hz];decide),Xe n2 Zd (by rw[<-hp,hz];decide)⟩
 ·refine .inl ?_
  unfold Q6 at hp hz
  by_cases s1:a.toNat / 9223372036854775808 % 2=1
  ·rw[if_pos s1] at hp hz
   by_cases s2:b.toNat / 9223372036854775808 % 2=1
   ·rw[if_pos s2] at hp;omega
   ·rw[if_neg s2] at hp;omega
  ·rw[if_neg s1] at hp hz
   by_cases s2:b.toNat / 9223372036854775808 % 2=1
   ·rw[if_pos s2] at hp;omega
   ·rw[if_neg s2] at hp;omega
theorem I5{h h':Hd}(ho:U9 h h'=true):h.kind=h'.kind/\h.type=h'.type:=of_decide_eq_true ho
theorem Og{h h':Hd}(ho:U9 h h'=true)(hs:h.s=h'.s):Lu h=Lu h':=by
 unfold Lu Az
 rw[(I5 ho).1,(I5 ho).2,hs]
theorem Bw{h h':Hd}(ho:U9 h h'=true)(hs:h.s=h'.s)(hf:h.f=h'.f):Eg h=Eg h':=by
 unfold Eg;rw[Og ho hs,hf]
theorem Bx{h h':Hd}(h2:Eg h=Eg h')(hn:h.n=h'.n)(hob:h.obj=h'.obj)(hp:h.path=h'.path):Ie h=Ie h':=by
 unfold Ie;rw[h2,hn,hob,hp]
theorem Oh{h h':Hd}{n n':Nat}(o:h.ok)(o':h'.ok)(h1:K9 h n=true)(h2:K9 h' n'=true)(ho:U9 h h'=true)(he:h.kind≠8->(J1 h h').1=true):Ie h=Ie h':=by
 obtain⟨a0,a9,an,asz,_⟩:=T8 h1
 obtain⟨b0,b9,bn,bsz,_⟩:=T8 h2
 obtain⟨af,ar,_⟩:=Y8 h1
 obtain⟨bf,br,_⟩:=Y8 h2
 have hk:=(I5 ho).1
 by_cases h8:h.kind=8
 ·obtain⟨x1,x2⟩:h.obj=0/\h.path=[]:=by rcases ar with h | h | h | h | h<;>first | exact h | omega
  obtain⟨y1,y2⟩:h'.obj=0/\h'.path=[]:=by rcases br with h | h | h | h | h<;>first | exact h | omega
  exact Bx (Bw ho (by rw[T9 (show h.s.size=0 by omega),T9 (show h'.s.size=0 by omega)]) Zo) Zo Zo (by rw[x2,y2])
 have he:=he h8
 unfold J1 at he
 by_cases h3:h.kind=3
 ·rw[if_pos h3] at he
  obtain⟨x1,x2⟩:h.obj=0/\h.path=[]:=by rcases ar with h | h | h | h | h<;>first | exact h | omega
  obtain⟨y1,y2⟩:h'.obj=0/\h'.path=[]:=by rcases br with h | h | h | h | h<;>first | exact h | omega
  have es:h.s=h'.s:=by rw[T9 (show h.s.size=0 by omega),T9 (show h'.s.size=0 by omega)]
  refine Bx ?_ Zo Zo (by rw[x2,y2])
  rcases Ak9 o.f0 o.f1 o'.f0 o'.f1 he with hf | ⟨f1,f2⟩
  ·exact Bw ho es hf
  ·unfold Eg
   rw[f1,f2,Og ho es,if_neg (by simp),if_neg (by simp)]
 rw[if_neg h3] at he
 have ef:h.f=h'.f:=by omega
 by_cases h5:h.kind=5\/h.kind=6\/h.kind=7
 ·rw[if_pos h5] at he;cases he
 rw[if_neg h5] at he
 by_cases h9:h.kind=9
 ·rw[if_pos h9] at he
  have he:h.obj=h'.obj/\h.path=h'.path:=of_decide_eq_true he
  exact Bx (Bw ho (by rw[T9 (show h.s.size=0 by omega),T9 (show h'.s.size=0 by omega)]) ef) Zo he.1 he.2
 rw[if_neg h9] at he
 have he:h.n=h'.n/\h.s=h'.s:=of_decide_eq_true he
 obtain⟨x1,x2⟩:h.obj=0/\h.path=[]:=by rcases ar with h | h | h | h | h<;>first | exact h | omega
 obtain⟨y1,y2⟩:h'.obj=0/\h'.path=[]:=by rcases br with h | h | h | h | h<;>first | exact h | omega
 exact Bx (Bw ho he.2 ef) he.1 Zo (by rw[x2,y2])
theorem Da{h h':Hd}{k k':Fo}(h1:K9 h k.len=true)(h2:K9 h' k'.len=true)(ht:(D8 h k h' k').1=true):U9 h h'=true/\k.len=k'.len/\(I1 k k').1=true/\(h.kind≠8->(J1 h h').1=true):=by
 unfold D8 at ht
 by_cases ho:U9 h h'=false
 ·rw[if_pos ho] at ht;cases ht
 rw[if_neg ho] at ht
 have ho':U9 h h'=true:=by revert ho;cases U9 h h'<;>simp
 refine⟨ho', ?_⟩
 by_cases h8:h.kind=8
 ·rw[if_pos h8] at ht
  by_cases hl:k.len≠k'.len
  ·rw[if_pos hl] at ht;cases ht
  ·rw[if_neg hl] at ht
   exact⟨Zo,ht,fun h=>absurd h8 h⟩
 ·rw[if_neg h8] at ht
  have hk:=(I5 ho').1
  have l1:k.len=0:=by have:=(Y8 h1).2.2;omega
  have l2:k'.len=0:=by have:=(Y8 h2).2.2;omega
  refine⟨Zo, ?_,fun _=>ht⟩
  rw[Fo.len_eq_zero k l1]
  simp[I1]
theorem He: ∀(f g:Fo),f.ok->g.ok->okF f=true->okF g=true->f.len=g.len->(I1 f g).1=true->∀a,Eh f a=Eh g a
 | .nil,.nil,_,_,_,_,_,_,a=>rfl
 | .nil,.cons h k r,_,_,_,_,hl,_,a=>by simp[Fo.len] at hl
 | .cons h k r,.nil,_,_,_,_,hl,_,a=>by simp[Fo.len] at hl
 | .cons h k r,.cons h' k' r',o,o',e,e',hl,he,a=>by
  simp only[okF,Bool.and_eq_true] at e e'
  rw[K3] at he
  by_cases ht:(D8 h k h' k').1=true
  ·rw[if_pos ht] at he
   obtain⟨p1,p2,p3,p4⟩:=Da e.1.1 e'.1.1 ht
   rw[Eh,Eh,Oh o.1 o'.1 e.1.1 e'.1.1 p1 p4,He k k' o.2.1 o'.2.1 e.1.2 e'.1.2 p2 p3]
   exact He r r' o.2.2.1 o'.2.2.1 e.2 e'.2 (by simp[Fo.len] at hl;exact hl) he _
  ·rw[if_neg ht] at he;cases he
theorem Al0{h h':Hd}{k k':Fo}(o:h.ok)(o':h'.ok)(ok_:k.ok)(ok':k'.ok)(h1:G3 h k=true)(h2:G3 h' k'=true)(ht:(D8 h k h' k').1=true):T6 h k=T6 h' k':=by
 obtain⟨a1,a2⟩:=U0 h1
 obtain⟨b1,b2⟩:=U0 h2
 obtain⟨p1,p2,p3,p4⟩:=Da a1 b1 ht
 unfold T6
 rw[Oh o o' a1 b1 p1 p4]
 exact He k k' ok_ ok' a2 b2 p2 p3 _
theorem Hf{h:Hd}{k:Fo}(h0:h.kind=0):tyO h k=none:=by
 unfold tyO
 rw[if_neg Zo,if_neg Zo,if_neg Zo,if_neg Zo,if_neg Zo,if_neg Zo,if_neg Zo]
theorem Oi{h:Hd}{k:Fo}(h0:h.kind≠0)(h1:0<=h.kind)(h9:h.kind<=9): ∃t,tyO h k=some t:=by
 unfold tyO
 by_cases a1:h.kind=1
 ·rw[if_pos a1];exact⟨_,rfl⟩
 rw[if_neg a1]
 by_cases a2:h.kind=2\/h.kind=3
 ·rw[if_pos a2];exact⟨_,rfl⟩
 rw[if_neg a2]
 by_cases a4:h.kind=4
 ·rw[if_pos a4];exact⟨_,rfl⟩
 rw[if_neg a4]
 by_cases a5:h.kind=5
 ·rw[if_pos a5];exact⟨_,rfl⟩
 rw[if_neg a5]
 by_cases a6:h.kind=6\/h.kind=7
 ·rw[if_pos a6];exact⟨_,rfl⟩
 rw[if_neg a6]
 by_cases a9:h.kind=9
 ·rw[if_pos a9];exact⟨_,rfl⟩
 rw[if_neg a9,if_pos Zo]
 by_cases hh:W6 h k=emp
 ·rw[if_pos hh];exact⟨_,rfl⟩
 ·rw[if_neg hh];exact⟨_,rfl⟩
theorem Al1{h h':Hd}{k k':Fo}(o:h.ok)(o':h'.ok)(ok_:k.ok)(ok':k'.ok)(h1:G3 h k=true)(h2:G3 h' k'=true)(ht:(D8 h k h' k').1=true):Dz h k=Dz h' k':=by
 obtain⟨p1,_⟩:=Da (U0 h1).1 (U0 h2).1 ht
 have hk:=(I5 p1).1
 obtain⟨a0,a9,_⟩:=T8 (U0 h1).1
 unfold Dz
 by_cases h0:h.kind=0
 ·rw[Hf h0,Hf Zo]
 ·obtain⟨t,e⟩:=Oi (k:=k) h0 a0 a9
  obtain⟨t',e'⟩:=Oi (h:=h') (k:=k') Zo Zo Zo
  rw[e,e']
  exact Al0 o o' ok_ ok' h1 h2 ht
theorem Oj(h:Hd)(k:Fo):W6 h k=if h.kind=8 then(I1 k k).2 else(J1 h h).2:=by
 unfold W6 D8
 rw[if_neg (by rw[T4];simp)]
 by_cases h8:h.kind=8
 ·rw[if_pos h8,if_pos h8,if_neg (by simp)]
 ·rw[if_neg h8,if_neg h8]
theorem Al2{h:Hd}{k:Fo}(hr:G3 h k=true):Ez h k=decide (W6 h k=emp):=by
 obtain⟨a0,a9,_,_,ant⟩:=T8 (U0 hr).1
 have ho:=Oj h k
 unfold Ez
 by_cases h0:h.kind=0
 ·rw[if_neg Zo] at ho
  rw[Hf h0,ho]
  unfold J1
  rw[if_neg Zo,if_neg Zo,if_neg Zo]
  simp
 by_cases h8:h.kind=8
 ·unfold tyO
  rw[if_neg Zo,if_neg Zo,if_neg Zo,if_neg Zo,if_neg Zo,if_neg Zo,if_pos h8]
  by_cases hh:W6 h k=emp
  ·rw[if_pos hh,decide_eq_true hh];rfl
  ·rw[if_neg hh,decide_eq_false hh];rfl
 rw[if_neg h8] at ho
 rw[ho]
 unfold tyO J1
 by_cases a1:h.kind=1
 ·rw[if_pos a1,if_neg Zo,if_neg Zo,if_neg Zo,decide_eq_true rfl];rfl
 rw[if_neg a1]
 by_cases a3:h.kind=3
 ·rw[if_pos (.inr a3),if_pos a3,decide_eq_true rfl];rfl
 by_cases a2:h.kind=2
 ·rw[if_pos (.inl a2),if_neg Zo,if_neg Zo,if_neg Zo,decide_eq_true rfl];rfl
 rw[if_neg Zo]
 by_cases a4:h.kind=4
 ·rw[if_pos a4,if_neg Zo,if_neg Zo,if_neg Zo,decide_eq_true rfl];rfl
 rw[if_neg a4]
 by_cases a5:h.kind=5
 ·rw[if_pos a5,if_neg Zo,if_pos Zo,decide_eq_false (Fj ant Zo)];rfl
 rw[if_neg a5]
 by_cases a6:h.kind=6\/h.kind=7
 ·rw[if_pos a6,if_neg Zo,if_pos Zo,decide_eq_false (Fj ant Zo)];rfl
 rw[if_neg a6]
 have a9':h.kind=9:=by omega
 rw[if_pos a9',if_neg Zo,if_neg Zo,if_pos a9',decide_eq_true rfl];rfl
theorem Ok{h h':Hd}(ho:U9 h h'=true)(he:(J1 h h').1=true):J1 h' h'=(true,emp):=by
 have hk:=(I5 ho).1
 unfold J1 at he ⊢
 by_cases h3:h.kind=3
 ·rw[if_pos h3] at he
  obtain⟨_,n2,_⟩:=Xd he
  rw[if_pos Zo,Xe n2 n2 rfl]
 rw[if_neg h3] at he
 by_cases h5:h.kind=5\/h.kind=6\/h.kind=7
 ·rw[if_pos h5] at he;cases he
 rw[if_neg Zo,if_neg Zo]
 by_cases h9:h.kind=9
 ·rw[if_pos Zo];simp
 ·rw[if_neg Zo];simp
theorem Hg: ∀(f g:Fo),f.len=g.len->(I1 f g).1=true->I1 g g=(true,emp)
 | .nil,.nil,_,_=>by simp[I1]
 | .nil,.cons h k r,hl,_=>by simp[Fo.len] at hl
 | .cons h k r,.nil,hl,_=>by simp[Fo.len] at hl
 | .cons h k r,.cons h' k' r',hl,he=>by
  rw[K3] at he
  by_cases ht:(D8 h k h' k').1=true
  ·rw[if_pos ht] at he
   have hd:D8 h' k' h' k'=(true,emp):=by
    unfold D8 at ht ⊢
    by_cases ho:U9 h h'=false
    ·rw[if_pos ho] at ht;cases ht
    rw[if_neg ho] at ht
    have ho':U9 h h'=true:=by revert ho;cases U9 h h'<;>simp
    have hk:=(I5 ho').1
    rw[if_neg (by rw[T4];simp)]
    by_cases h8:h.kind=8
    ·rw[if_pos h8] at ht
     by_cases hll:k.len≠k'.len
     ·rw[if_pos hll] at ht;cases ht
     ·rw[if_neg hll] at ht
      rw[if_pos Zo,if_neg (by simp)]
      exact Hg k k' Zo ht
    ·rw[if_neg h8] at ht
     rw[if_neg Zo]
     exact Ok ho' ht
   rw[K3,hd,if_pos rfl]
   exact Hg r r' (by simp[Fo.len] at hl;exact hl) he
  ·rw[if_neg ht] at he;cases he
theorem Al3{h h':Hd}{k k':Fo}(ht:(D8 h k h' k').1=true):D8 h' k' h' k'=(true,emp):=by
 unfold D8 at ht ⊢
 by_cases ho:U9 h h'=false
 ·rw[if_pos ho] at ht;cases ht
 rw[if_neg ho] at ht
 have ho':U9 h h'=true:=by revert ho;cases U9 h h'<;>simp
 have hk:=(I5 ho').1
 rw[if_neg (by rw[T4];simp)]
 by_cases h8:h.kind=8
 ·rw[if_pos h8] at ht
  by_cases hll:k.len≠k'.len
  ·rw[if_pos hll] at ht;cases ht
  ·rw[if_neg hll] at ht
   rw[if_pos Zo,if_neg (by simp)]
   exact Hg k k' Zo ht
 ·rw[if_neg h8] at ht
  rw[if_neg Zo]
  exact Ok ho' ht
end Go.Proofs.YtbjegfpfmnleeaaGreatDoor
namespace Go.Proofs.YtbjegfpfmnleeaaGreatDoor
open Go.RowKit
set_option maxRecDepth 100000
def rB(d:Dt):Bool:=G3 d.h d.k
def kB(d:Dt):Bool:=Ez d.h d.k
def hV(d:Dt):Int:=Dz d.h d.k
def eqO(a b:Dt):Bool:=(D8 a.h a.k b.h b.k).1
theorem X6{d:Dt}{m:Dm}{S:Nat->Prop}{w:World}(ho:d.ok)(hd:d.at w S m)(hown:OwnAt w):Calls Tryz.prog 65 #[.agg (d.cs m)] w fun e w'=>e=.returned (.bool (rB d))/\Below w.heap.size w w':=
 Z9 d.h d.k ho.h ho.k w S m.pa m.pc m.ia m.ic hd hown
theorem Ew3{d:Dt}{m:Dm}{S:Nat->Prop}{w:World}(ho:d.ok)(hd:d.at w S m)(hown:OwnAt w):Calls Tryz.prog 115 #[.agg (d.cs m)] w (Ab7 d.h d.k w):=
 Ab8 d.h d.k ho.h ho.k ho.len w S m.pa m.pc m.ia m.ic hd hown
theorem Ej2{d:Dt}{m:Dm}{S:Nat->Prop}{w:World}(ho:d.ok)(hd:d.at w S m)(hown:OwnAt w):Calls Tryz.prog 116 #[.agg (d.cs m)] w (Cc d.h d.k w):=
 Ap8 d.h d.k ho.h ho.k ho.len w S m.pa m.pc m.ia m.ic hd hown
theorem Ay7{d d':Dt}{m m':Dm}{S T:Nat->Prop}{w:World}(ho:d.ok)(ho':d'.ok)(hd:d.at w S m)(hd':d'.at w T m')(hown:OwnAt w):Calls Tryz.prog 99 #[.agg (d.cs m),.agg (d'.cs m')] w (Dy d.h d.k d'.h d'.k w):=
 Ab6 d.h d.k d'.h d'.k ho.h ho.k ho'.h ho'.k w S T m.pa m.pc m.ia m.ic m'.pa m'.pc m'.ia m'.ic hd hd' hown
theorem OwnAt.old{w w':World}(h:OwnAt w)(hb:Below w.heap.size w w'):OwnAt w':=h.below hb (Nat.le_refl _)
theorem Vr{w w':World}{g o:Nat}{vs:List Value}(h:w.rangeAt g o vs)(hb:Below w.heap.size w w')(hg:g<w.heap.size):w'.rangeAt g o vs:=fun j v hj=>(hb.cell (p:=⟨g,o+j,none⟩) hg).trans (h j v hj)
theorem Gx{w:World}{g:Nat}{t:TypeId}{cs:Array Value}(h:Blk w g t cs)(hz:cs.size=11)(d:Dt)(m:Dm):Blk (w.setCells g 0 (d.cs m).toList) g t (d.cs m):=by
 obtain⟨l⟩:=cs
 have hz:l.length=11:=hz
 match l,hz with
 | [a0,a1,a2,a3,a4,a5,a6,a7,a8,a9,a10],_=>
  have e:((d.cs m).toList.foldl (fun(p:Array Value×Nat) v=>(p.1.setIfInBounds p.2 v,p.2+1)) ((⟨[a0,a1,a2,a3,a4,a5,a6,a7,a8,a9,a10]⟩:Array Value),0)).1=d.cs m:=by kernel_rfl
  have h2:=Blk.setL (d.cs m).toList 0 _ _ h
  rw[e] at h2
  exact h2
theorem G8{w:World}{g:Nat}{t:TypeId}{d:Dt}{m:Dm}(h:Blk w g t (d.cs m)):Lds Tryz.prog 53 (pT g) (.agg (d.cs m)) w:=C6 h rfl
def Q1:Array Value:=#[ii 0,.string ⟨#[]⟩,ii 0,.int .u64 0,.string ⟨#[]⟩,ii 0,ii 0,ii 0,ii 0,.slice none 0 0,.slice none 0 0]
theorem Et2{n cap k g:Nat}(hk:k<n)(w:World):(Instr.indexAt 167 (.slice (some ⟨g,0,none⟩) n cap) (.int .u64 (k:Int))).run Tryz.prog w=.ok (.pointer (some ⟨g,k,none⟩)) w:=by
 obtain⟨i,hi1,hi2⟩:=Option.map_eq_some_iff.1 Ft
 have ha:(⟨g,0,none⟩:Addr).add k=⟨g,k,none⟩:=by
  unfold Addr.add
  split
  ·rename_i h;rw[h]
  ·simp
 simp[Instr.indexAt,asIntOf,run_underlying Tryz.underlying167,sizeOf,typeInfo,hi1,hi2,ha]
 omega
theorem Cu7{a b:Int}(h0:0<=a)(h1:a<=18446744073709551615)(hb:0<b)(w:World):(binOp .rem 49 (.int .u64 a) (.int .u64 b)).run Tryz.prog w=.ok (.int .u64 (a % b)) w:=by
 have e:a.tmod b=a % b:=Int.tmod_eq_emod_of_nonneg h0
 have h2:=Int.emod_nonneg a (show b≠0 by omega)
 have h3:a % b<=a:=by
  by_cases q:a<b
  ·rw[Int.emod_eq_of_lt h0 q];exact Int.le_refl _
  ·have:=Int.emod_lt_of_pos a hb;omega
 have hw:IntKind.u64.wrap (a % b)=a % b:=Cw ⟨by simpa[IntKind.min,IntKind.signed] using h2,by simp[IntKind.max,IntKind.signed,IntKind.bits];omega⟩
 have hb': ¬b=0:=by omega
 simp only[binOp,Op.intArith,Op.intDiv]
 simp[hb',e,hw]
theorem Ay8(n:Nat)(hn:n<=9223372036854775807)(w:World):(convert 3 49 (ii (n:Int))).run Tryz.prog w=.ok (.int .u64 (n:Int)) w:=by
 have hw:IntKind.u64.wrap (n:Int)=(n:Int):=Cw ⟨by simp[IntKind.min,IntKind.signed],by simp[IntKind.max,IntKind.signed,IntKind.bits];omega⟩
 simp[convert,run_underlying Tryz.underlying3,run_underlying Tryz.underlying49,Conv.intToInt,hw]
set_option maxHeartbeats 1000000 in
theorem Qu(L:List (Dt×Dm))(hL:L.length<=1000)(g cap:Nat)(w:World)(hown:OwnAt w)(hlt:g<w.heap.size)(hrow: ∀(j:Nat) (d:Dt) (m:Dm),L[j]? =some (d,m)->w.rangeAt g (j*11) (d.cs m).toList/\d.ok/\∃S,d.at w S m):
  Calls Tryz.prog 95 #[.slice (some ⟨g,0,none⟩) L.length cap] w fun e w'=> ∃v,e=.returned v/\((if L.all (fun p=>rB p.1)=true then v=.nilIface else WrongAt w w' v)/\Below w.heap.size w w'):=by
 refine B6 (vs:=[.slice (some ⟨g,0,none⟩) L.length cap]) 18 Tryz.func95 Bn4 Zk (by simp) fun a0 h0=> ?_
 unfold Ax7
 refine Zs (Ef4 h0 fun a1 h1=> ?_)
 refine wp_seq (Zs (Ef5 h1 rfl fun a2 h2=> ?_))
 refine wp_block ?_
 refine wp_loop (fun a' wr=> ∃j:Nat,j<=L.length/\(∀i p,i<j->L[i]? =some p->rB p.1=true)/\Sl 18 a' [(7,ii (j:Int)),(6,ii (L.length:Int)),(5,.slice (some ⟨g,0,none⟩) L.length cap)]/\Below w.heap.size w wr) (fun a' _=>G1 L.length (F9 a' 7))
  ⟨0,Zo,fun i p h=>by omega,h2.to ⟨rfl,rfl,rfl,trivial⟩,Below.refl _ _⟩ ?_
 rintro a3 w3 ⟨j,hj,hall,h3,hb3⟩
 rw[h3.look 7 rfl,B4]
 unfold Et0
 by_cases hlt':j<L.length
 ·refine Zs (Cs3 h3 rfl rfl (decide_eq_true Zo) fun a4 h4=> ?_)
  refine wp_seq (wpn (h4.look 8 rfl) ?_)
  obtain⟨⟨d,m⟩,hdm⟩: ∃p,L[j]? =some p:=⟨L[j],by simp[hlt']⟩
  obtain⟨hr,ho,S,hd⟩:=hrow j d m hdm
  have hz:=Blk.new w3 53 Q1
  refine wp_seq (wp_block ?_)
  refine Zs (Ef6 h4 rfl rfl (fun w=>Aj9 (o:=j*11) (sz:=11) j rfl Tryz.underlying23 K4 hlt' rfl w) (Bo7 (cs:=(d.cs m).toList) Tryz.underlying53 rfl K4 (Vr hr hb3 hlt)) (D1 (d:=d) (m:=m) hz Zd) fun a5 h5=> ?_)
  have hB:=Gx hz rfl d m
  have hb5:=C8 (d.cs m).toList 0 _ (B2 (Below.refl w3.heap.size w3) (.cells Q1 53)) (Nat.le_refl _)
  change Blk (World.setCells (w3.alloc (.cells Q1 53)) w3.heap.size 0 (d.cs m).toList) _ _ _ at hB
  show Code.wp _ _ _ a5 (World.setCells (w3.alloc (.cells Q1 53)) w3.heap.size 0 (d.cs m).toList)
  generalize World.setCells (w3.alloc (.cells Q1 53)) w3.heap.size 0 (d.cs m).toList=w5 at hB hb5 ⊢
  have hb05:=A7 hb3 hb5
  refine Zs (Ef7 h5 rfl (G8 hB) (X6 ho (hd.old hb05) (hown.old hb05)) fun a6 w6 hb6 h6=> ?_)
  have hb06:=A7 hb05 hb6
  cases hrB:rB d with
  | true=>
   rw[hrB] at h6
   refine B9 (h6.look 13 rfl) (B1 ?_)
   show Code.wp _ (Ii 6) _ a6 w6
   refine Zl (Ef9 h6 rfl Zo fun a7 h7=> ?_)
   refine⟨⟨j+1,Zo,fun i p hi hp=> ?_,h7.to ⟨rfl,rfl,rfl,trivial⟩,hb06⟩, ?_⟩
   ·rcases Nat.lt_or_ge i j with q | q
    ·exact hall i p q hp
    ·obtain rfl:i=j:=by omega
     rw[hdm] at hp
     injection hp with hp
     subst hp
     exact hrB
   ·rw[h7.look 7 rfl]
    show G1 L.length (ii ((j+1:Nat):Int))<_
    rw[B4]
    omega
  | false=>
   rw[hrB] at h6
   refine wp_cond_true (h6.look 13 rfl) ?_
   refine Zs (Ef8 h6 fun a7 h7=>wp_ret ?_)
   repeat (first | with_reducible refine D2 ?_ | with_reducible refine F1 ?_)
   refine G7 rfl h7 rfl ⟨_,rfl, ?_,B2 hb06 _⟩
   rw[if_neg (by
    rw[List.all_eq_true]
    intro hh
    have:=hh (d,m) (List.mem_of_getElem? hdm)
    rw[show rB (d,m).1=false from hrB] at this
    cases this)]
   exact⟨_,rfl,Blk.new _ _ _,hb06.size⟩
 ·refine Zs (Cs3 h3 rfl rfl (decide_eq_false Zo) fun a4 h4=> ?_)
  refine wp_seq (C9 (h4.look 8 rfl) ?_)
  refine A8 (A8 (B8 ?_))
  show Code.wp _ (Code.seq (Ii 7) .ret) _ a4 w3
  refine Zs (Eg0 h4 fun a5 h5=>wp_ret ?_)
  refine G7 rfl h5 rfl ⟨_,rfl, ?_,hb3⟩
  rw[if_pos (by
   rw[List.all_eq_true]
   intro p hp
   obtain⟨i,hi⟩:=List.mem_iff_getElem?.1 hp
   exact hall i p (by have:=(List.getElem?_eq_some_iff.1 hi).1;omega) hi)]
def bkB(n:Nat)(h:Int)(x:En):Bool:=x.hash.toNat % n==h.toNat % n
def Links(n:Nat)(R:List En)(N B A:Nat->Option Addr):Prop:= ∀X e Z,R=X++e::Z->N e.g=pO (Z.find? (bkB n e.hash))/\B e.g=pO Z.head? /\A e.g=pO X.getLast?
def HeadsOk(n:Nat)(R:List En)(H:Nat->Option Addr):Prop:= ∀i,i<n->H i=pO (R.find? (fun x=>x.hash.toNat % n==i))
structure KeysOk (R:List En):Prop where
 right: ∀e∈R,rB e.key=true/\kB e.key=true
 num: ∀e∈R,e.hash=hV e.key/\e.own=eqO e.key e.key
def MapAt(w:World)(m:Nat)(R:List En)(D O:Nat->Prop):Prop:= ∃hb n H N B A,0<n/\n<=1099511627776/\Raw w m hb n (pO R.getLast?) (pO R.head?) (R.length:Int) H N B A R D/\HeadsOk n R H/\Links n R N B A/\KeysOk R/\(O m/\O hb/\(∀e∈R,O e.g)/\∀b,O b->b<w.heap.size)
theorem MapAt.old{w w':World}{m:Nat}{R:List En}{D O:Nat->Prop}(h:MapAt w m R D O)(hb:Below w.heap.size w w'):MapAt w' m R D O:=
 let⟨a,b,c,d,e,f,h1,h2,h3,h4,h5,h6,o1,o2,o3,o4⟩:=h;⟨a,b,c,d,e,f,h1,h2,h3.old hb,h4,h5,h6,o1,o2,o3,fun b hb'=>Nat.lt_of_lt_of_le (o4 b hb') hb.size⟩
theorem MapAt.mlt{w:World}{m:Nat}{R:List En}{D O:Nat->Prop}(h:MapAt w m R D O):m<w.heap.size:=
 let⟨_,_,_,_,_,_,_,_,h3,_⟩:=h;h3.mlt
def fE(R:List En)(d:Dt):Option En:=R.find? (fun e=>e.hash==hV d&&eqO e.key d)
def Bo6(x:Int):Prop:=0<=x/\x<=18446744073709551615
theorem Vs(x:Int):Bo6 (IntKind.u64.wrap x):=by
 unfold Bo6
 simp[IntKind.wrap,IntKind.signed,IntKind.bits]
 omega
theorem Ay9: ∀(l:List Int) (a:Int),Bo6 a->Bo6 (Cd0 l a)
 | [],_,h=>h
 | x::r,a,_=>by unfold Cd0;exact Ay9 r _ (Vs _)
theorem Vt: ∀(f:Fo) (a:Int),Bo6 a->Bo6 (Eh f a)
 | .nil,_,h=>by unfold Eh;exact h
 | .cons h k r,a,_=>by unfold Eh;exact Vt r _ (Vs _)
theorem Fu(d:Dt):0<=hV d/\hV d<=18446744073709551615:=by
 have h: ∀(h:Hd) (k:Fo),Bo6 (T6 h k):=fun h k=>Vt k _ (Ay9 _ _ (Vs _))
 unfold hV Dz
 split<;>exact h _ _
theorem Aj8(w:World):Calls Tryz.prog 91 #[] w fun e w'=>e=.returned (pT w.heap.size)/\MapAt w' w.heap.size [] (fun _=>False) (fun b=>b=w.heap.size)/\Below w.heap.size w w':=by
  refine B6 (vs:=[]) 12 Tryz.func91 Bn2 Zk (by simp) fun a0 h0=> ?_
  unfold Ax5
  refine Zs (Ee2 h0 fun a1 h1=> ?_)
  refine Zs (Ee3 h1 fun a2 h2=> ?_)
  have hB:=Blk.new w Dn4 #[.pointer none,.pointer none,.pointer none,.pointer none,.pointer none,.pointer none,.pointer none,.pointer none,.slice none 0 0,.pointer none,.pointer none,ii 0]
  have hb1:=B2 (Below.refl w.heap.size w) (.cells #[.pointer none,.pointer none,.pointer none,.pointer none,.pointer none,.pointer none,.pointer none,.pointer none,.slice none 0 0,.pointer none,.pointer none,ii 0] Dn4)
  generalize w.alloc (.cells #[.pointer none,.pointer none,.pointer none,.pointer none,.pointer none,.pointer none,.pointer none,.pointer none,.slice none 0 0,.pointer none,.pointer none,ii 0] Dn4)=w1 at hB hb1 ⊢
  have hsl: ∀w',(Instr.sliceAt 166 (pT w.heap.size) none none none).run Tryz.prog w'=.ok (.slice (some ⟨w.heap.size,0,none⟩) 8 8) w':=fun w'=>by kernel_rfl
  refine Zs (Ee4 h2 rfl hsl (F2 hB Zk Zd rfl) fun a3 h3=> ?_)
  have hB2:=hB.set_ 8 (.slice (some ⟨w.heap.size,0,none⟩) 8 8)
  have hb2:=C8 [.slice (some ⟨w.heap.size,0,none⟩) 8 8] 8 _ hb1 (Nat.le_refl _)
  change Blk (w1.setCells w.heap.size 8 [.slice (some ⟨w.heap.size,0,none⟩) 8 8]) _ _ _ at hB2
  generalize w1.setCells w.heap.size 8 [.slice (some ⟨w.heap.size,0,none⟩) 8 8]=w2 at hB2 hb2 ⊢
  refine Zs (Ee5 h3 rfl fun a4 h4=>wp_ret ?_)
  refine G7 rfl h4 rfl ⟨rfl,⟨w.heap.size,8,fun _=>none,fun _=>none,fun _=>none,fun _=>none,Zo,Zo, ?_,fun i _=>rfl,(by intro X e Z h;cases X<;>cases h),⟨(fun _ h=>by cases h),(fun _ h=>by cases h)⟩,rfl,rfl,(fun _ h=>by cases h),fun b hb=>by rw[hb];exact hB2.lt⟩,hb2⟩
  exact { map := ⟨_, hB2, rfl, rfl, rfl, rfl, rfl⟩
          heads:=⟨_,_,hB2,by simp,fun i hi=>by
            match i,hi with
            | 0,_=>rfl
            | 1,_=>rfl
            | 2,_=>rfl
            | 3,_=>rfl
            | 4,_=>rfl
            | 5,_=>rfl
            | 6,_=>rfl
            | 7,_=>rfl,fun _=>rfl⟩
          ent:=fun _ h=>by cases h
          nd:=List.nodup_nil
          far:=fun _ h=>by cases h
          out:=⟨id,id,fun _ h=>by cases h⟩
          ok:=fun _ h=>by cases h
          dlt:=fun _ h=>h.elim}
theorem Ju{a b:Hd}(ho:U9 a b=true)(h:(J1 a b).2≠emp):(J1 b b).2≠emp:=by
 obtain⟨h1,h2⟩:=I5 ho
 unfold J1 at h ⊢
 rw[h1,h2] at h
 split at h
 ·exact absurd rfl h
 ·rename_i h3
  rw[if_neg h3]
  split at h
  ·rename_i h4
   rw[if_pos h4]
   exact h
  ·rename_i h4
   rw[if_neg h4]
   split at h
   ·exact absurd rfl h
   ·exact absurd rfl h
theorem X8{a b:Hd}{k l:Fo}(hF:k.len=l.len->(I1 k l).2≠emp->(I1 l l).2≠emp)(h:(D8 a k b l).2≠emp):(D8 b l b l).2≠emp:=by
 unfold D8 at h ⊢
 rw[T4]
 by_cases ho:U9 a b=false
 ·rw[if_pos ho] at h
  exact absurd rfl h
 ·rw[if_neg ho] at h
  rw[if_neg Zd]
  have ho':U9 a b=true:=by simpa using ho
  have hk:=(I5 ho').1
  by_cases h8:a.kind=8
  ·rw[if_pos h8] at h
   rw[if_pos (hk ▸ h8)]
   by_cases hl:k.len≠l.len
   ·rw[if_pos hl] at h
    exact absurd rfl h
   ·rw[if_neg hl] at h
    rw[if_neg (by simp)]
    exact hF (Decidable.not_not.1 hl) h
  ·rw[if_neg h8] at h
   rw[if_neg (hk ▸ h8)]
   exact Ju ho' h
theorem S6: ∀(f g:Fo),f.len=g.len->(I1 f g).2≠emp->(I1 g g).2≠emp
 | .nil,.nil,_,h=>h
 | .nil,.cons _ _ _,e,_=>by simp[Fo.len] at e
 | .cons _ _ _,.nil,e,_=>by simp[Fo.len] at e
 | .cons a k f,.cons b l g,e,h=>by
  rw[K3] at h ⊢
  by_cases h1:(D8 a k b l).1=true
  ·rw[if_pos h1] at h
   rw[Al3 h1,if_pos rfl]
   exact S6 f g (by simpa[Fo.len] using e) h
  ·rw[if_neg h1] at h
   have h2:(D8 b l b l).2≠emp:=X8 (fun e' h'=>S6 k l e' h') h
   rw[if_neg (by rw[Tj h2];decide)]
   exact h2
theorem Jv{a b:Dt}(h:(D8 a.h a.k b.h b.k).2≠emp):(D8 b.h b.k b.h b.k).2≠emp:=X8 (fun e h=>S6 _ _ e h) h
theorem Vx(d:Dt):W6 d.h d.k=(D8 d.h d.k d.h d.k).2:=by
 rw[Oj]
 by_cases h8:d.h.kind=8<;>simp[D8,T4,h8]
theorem Oa{a d:Dt}(hr:rB d=true)(hk:kB d=true):(D8 a.h a.k d.h d.k).2=emp:=by
 apply Decidable.byContradiction
 intro h
 have h2:=Jv h
 rw[<-Vx] at h2
 have h3:=Al2 (h:=d.h) (k:=d.k) hr
 rw[show Ez d.h d.k=true from hk] at h3
 exact h2 (by simpa using h3.symm)
theorem Gz(p:Addr)(w:World):(binOp .neq 161 (pT p.block) (.pointer none)).run Tryz.prog w=.ok (.bool true) w:=by kernel_rfl
theorem Vy(w:World):(binOp .neq 161 (.pointer none) (.pointer none)).run Tryz.prog w=.ok (.bool false) w:=by kernel_rfl
theorem Ak0(p:Addr)(w:World):(binOp .eql 161 (pT p.block) (.pointer none)).run Tryz.prog w=.ok (.bool false) w:=by kernel_rfl
theorem Cu9(w:World):(binOp .eql 161 (.pointer none) (.pointer none)).run Tryz.prog w=.ok (.bool true) w:=by kernel_rfl
def Cv0(R:List En)(d:Dt)(w:World)(e:Ending)(w':World):Prop:=Below w.heap.size w w'/\
 if kB d=true then e=.returned (.tuple #[.pointer (pO (fE R d)),.int .u64 (hV d),.nilIface]) else ∃v,e=.returned (.tuple #[.pointer none,.int .u64 0,v])/\FaultAt w w' v Dn9 (W6 d.h d.k)
theorem Et7{P:Program}{fn:Func}{R:Ending->World->Prop}{a:Act}{w:World}{n t u s:Nat}{l:List (Nat×Value)}{v x y:Value}(hr:fn.results=#[.tmp t,.tmp u,.tmp s])(hs:Sl n a l)(e:l.lookup t=some v)(e2:l.lookup u=some x)(e3:l.lookup s=some y)(h:R (.returned (.tuple #[v,x,y])) w):bodyPost P fn R .ret a w:=
 bodyPost_ret (v:=.tuple #[v,x,y]) (by
  have h1:=hs.look t e
  have h2:=hs.look u e2
  have h3:=hs.look s e3
  unfold F9 at h1 h2 h3
  simp[results,hr] at h1 h2 h3 ⊢
  rw[h1,h2,h3]
  exact⟨rfl,rfl,rfl⟩) hs.defers h
theorem Bo8{R:List En}{n:Nat}{h:Int}{p:En->Bool}(hp: ∀e∈R,p e=true->bkB n h e=true):R.find? (bkB n h)=none->R.find? p=none:=fun hn=>by
 rw[List.find?_eq_none] at hn ⊢
 exact fun e he hpe=>hn e he (hp e he hpe)
set_option maxHeartbeats 2000000 in
theorem Vz{w:World}{m:Nat}{R:List En}{D O:Nat->Prop}(hM:MapAt w m R D O){d:Dt}{md:Dm}{S:Nat->Prop}(ho:d.ok)(hr:rB d=true)(hd:d.at w S md)(hown:OwnAt w):
    Calls Tryz.prog 96 #[pT m,.agg (d.cs md)] w (Cv0 R d w):=by
  refine B6 (vs:=[pT m,.agg (d.cs md)]) 69 Tryz.func96 Bn5 Zk (by simp) fun a0 h0=> ?_
  unfold Ax8
  refine Zs (Eg1 h0 rfl fun a1 h1=> ?_)
  have hB1:=Blk.new w 53 (d.cs md)
  have hb1:=B2 (Below.refl w.heap.size w) (.cells (d.cs md) 53)
  generalize w.alloc (.cells (d.cs md) 53)=w1 at hB1 hb1 ⊢
  refine wp_seq (Zs (Eg2 h1 rfl (G8 hB1) ((Ew3 ho (hd.old hb1) (hown.old hb1)).mono fun e w' hh=>let⟨h1,v,h2,h3⟩:=hh;⟨v,h2,And.intro h1 h3⟩) fun a2 v2 w2 hx h2=> ?_))
  obtain⟨hb2,hv⟩:=hx
  have hb02:=A7 hb1 hb2
  unfold Sg at hv
  rw[if_pos (show G3 d.h d.k=true from hr)] at hv
  cases hk:kB d with
  | false=>
    have hk': ¬Ez d.h d.k=true:=by rw[show Ez d.h d.k=false from hk];decide
    rw[if_neg hk'] at hv
    obtain⟨g,rfl,hg⟩:=hv
    refine Zs (Cs5 h2 rfl fun a3 h3=>wp_cond_true (h3.look 16 rfl) ?_)
    refine Zs (Eg3 h3 rfl fun a4 h4=>wp_ret (D2 ?_))
    exact Et7 rfl h4 rfl rfl rfl ⟨hb02,by rw[hk,if_neg Zd];exact⟨_,rfl,g,rfl,hg.1,Nat.le_trans hb1.size hg.2⟩⟩
  | true=>
  rw[if_pos (show Ez d.h d.k=true from hk)] at hv
  subst hv
  have fin: ∀{a':Act} {w':World} {l'} {r:Option Addr},Sl 69 a' l'->l'.lookup 4=some (.pointer r)->l'.lookup 5=some (.int .u64 (hV d))->l'.lookup 6=some .nilIface->Below w.heap.size w w'->r=pO (fE R d)->
      bodyPost Tryz.prog Tryz.f96 (Cv0 R d w) .ret a' w':=fun h' e4 e5 e6 hb e=>by
    subst e
    exact Et7 rfl h' e4 e5 e6 ⟨hb,by rw[hk,if_pos rfl]⟩
  refine Zs (Cs4 h2 rfl fun a3 h3=>wpo (h3.look 16 rfl) ?_)
  have hB2:=hB1.below hb2 hB1.lt
  refine Zs (Eg4 (h:=hV d) h3 rfl (G8 hB2) ((Ej2 ho (hd.old hb02) (hown.old hb02)).mono fun e w' hh=>by
    obtain⟨q1,nn,v,q2,q3,q4⟩:=hh
    unfold Sg at q3
    rw[if_pos (show G3 d.h d.k=true from hr),if_pos (show Ez d.h d.k=true from hk)] at q3
    rw[if_pos (by rw[show G3 d.h d.k=true from hr,show Ez d.h d.k=true from hk];rfl)] at q4
    exact⟨v,by rw[q2,q4];rfl,And.intro q3 q1⟩) fun a4 v4 w4 hx h4=> ?_)
  obtain⟨rfl,hb4⟩:=hx
  have hb04:=A7 hb02 hb4
  refine wp_seq (Zs (Cs6 h4 rfl fun a5 h5=>wpo (h5.look 24 rfl) ?_))
  obtain⟨hb,n,H,N,B,A,hn0,hn1,hR,hH,hLk,hKO,_⟩:=hM.old hb04
  obtain⟨cs,hBm,hz,c8,_⟩:=hR.map
  obtain⟨t,hs,hBh,hhz,hhs,_⟩:=hR.heads
  have hran:=Fu d
  have hmod:(hV d) % (n:Int)=(((hV d).toNat % n:Nat):Int):=by
    rw[Int.natCast_emod,Int.toNat_of_nonneg hran.1]
  have hklt:(hV d).toNat % n<n:=Nat.mod_lt _ hn0
  refine wp_seq (Zs (Eg5 h5 rfl rfl (A9 hBm Tryz.underlying167 rfl c8) (fun w=>Ay8 n Zo w) (fun w=>Cu7 hran.1 hran.2 Zo w) (fun w=>by rw[hmod];exact Et2 hklt w)
    (A9 hBh Tryz.underlying161 rfl (hhs _ hklt)) fun a6 mm h6=> ?_))
  have hb06:Below w.heap.size w (w4.drewN mm):=B3 hb04 mm
  have hB4:Blk (w4.drewN mm) w.heap.size 53 (d.cs md):=(hB2.below hb4 hB2.lt).drewN mm
  have hR4:Raw (w4.drewN mm) m hb n (pO R.getLast?) (pO R.head?) (R.length:Int) H N B A R D:=hR.old (B3 (Below.refl _ _) mm)
  rw[hH _ hklt] at h6
  generalize w4.drewN mm=w6 at hb06 hB4 hR4 ⊢
  refine wp_block ?_
  refine wp_loop (fun a' wr=> ∃(X Z:List En),R=X++Z/\fE R d=fE Z d/\Sl 69 a' [(10,.pointer (pO (Z.find? (bkB n (hV d))))),(8,.int .u64 (hV d)),(3,pT w.heap.size),(0,pT m)]/\Below w6.heap.size w6 wr)
    (fun a' _=>match F9 a' 10 with
      | .pointer (some p)=>(R.map (·.g)).length-(R.map (·.g)).idxOf p.block
      | _=>0)
    ⟨[],R,rfl,rfl,h6.to ⟨rfl,rfl,rfl,rfl,trivial⟩,Below.refl _ _⟩ ?_
  rintro a7 w7 ⟨X,Z,hXZ,hfE,h7,hb7⟩
  have hb07:=A7 hb06 hb7
  have hR7:=hR4.old hb7
  unfold Et1
  cases hf:Z.find? (bkB n (hV d)) with
  | none=>
    rw[hf] at h7
    refine wp_seq (Zs (Cs7 h7 rfl (fun w=>Vy w) fun a8 h8=>wpx (h8.look 41 rfl) ?_))
    refine A8 (B8 ?_)
    show Code.wp _ (Code.seq (R4 14) .ret) _ a8 w7
    refine Zs (Ct1 h8 rfl fun a9 h9=>wp_ret ?_)
    refine fin h9 rfl rfl rfl hb07 ?_
    rw[hfE]
    have:fE Z d=none:=Bo8 (n:=n) (h:=hV d) (fun e _ he=>by
      simp only[Bool.and_eq_true,beq_iff_eq] at he
      simp[bkB,he.1]) hf
    rw[this]
    rfl
  | some e=>
    obtain⟨hbk,Z1,Z2,hZ,hno⟩:=List.find?_eq_some_iff_append.1 hf
    rw[hf] at h7
    have hR7e:R=(X++Z1)++e::Z2:=by rw[hXZ,hZ,List.append_assoc]
    have heR:e∈R:=by rw[hR7e];simp
    obtain⟨ma,mb,hBe,hka,hva⟩:=hR7.ent e heR
    have hpe:pO (some e)=some ⟨e.g,0,none⟩:=rfl
    rw[hpe] at h7
    have hix:(R.map (·.g)).idxOf e.g=(X++Z1).length:=by
      have hnd:=hR7.nd
      rw[hR7e,List.map_append,List.map_cons] at hnd ⊢
      rw[List.idxOf_append,if_neg]
      · simp
      · intro hm
        have:=(List.nodup_append.1 hnd).2.2
        exact this _ hm _ List.mem_cons_self rfl
    have hmu:(match F9 a7 10 with
      | .pointer (some p)=>(R.map (·.g)).length-(R.map (·.g)).idxOf p.block
      | _=>0)=R.length-(X++Z1).length:=by
      rw[h7.look 10 rfl]
      show(R.map (·.g)).length-(R.map (·.g)).idxOf e.g=_
      rw[hix,List.length_map]
    rw[hmu]
    refine wp_seq (Zs (Cs8 h7 rfl (fun w=>Gz ⟨e.g,0,none⟩ w) fun a8 h8=>wpn (h8.look 41 rfl) ?_))
    have next: ∀(a':Act) (w':World) l',Sl 69 a' l'->AllL l' [(10,pT e.g),(8,.int .u64 (hV d)),(3,pT w.heap.size),(0,pT m)]->Below w6.heap.size w6 w'->(e.hash==hV d&&eqO e.key d)=false->
        ∀ Q : Exit → Act → World → Prop, (∀ a'', ((∃ (X Z : List En), R = X ++ Z ∧ fE R d = fE Z d ∧ Sl 69 a'' [(10, .pointer (pO (Z.find? (bkB n (hV d))))), (8, .int .u64 (hV d)), (3, .pointer (some ⟨w.heap.size, 0, none⟩)), (0, .pointer (some ⟨m, 0, none⟩))] ∧ Below w6.heap.size w6 w') ∧
          (match F9 a'' 10 with
            | .pointer (some p)=>(R.map (·.g)).length-(R.map (·.g)).idxOf p.block
            | _=>0)<R.length-(X++Z1).length)->Q .normal a'' w')->(R4 9).wp Tryz.prog Q a' w':=fun a' w' l' h' hl hb' hne Q hQ=>by
      have hR':=hR4.old hb'
      obtain⟨ma,mb,hBe,_⟩:=hR'.ent e heR
      have hN:=(hLk (X++Z1) e Z2 hR7e).1
      refine Zl (Eg6 (h'.to hl) rfl (A9 hBe Tryz.underlying161 rfl (v:=.pointer (N e.g)) rfl) fun a9 h9=>hQ a9 ⟨⟨(X++Z1)++[e],Z2,by rw[hR7e];simp, ?_, ?_,hb'⟩, ?_⟩)
      · rw[hfE,hZ]
        unfold fE
        rw[List.find?_append]
        have:Z1.find? (fun e=>e.hash==hV d&&eqO e.key d)=none:=by
          rw[List.find?_eq_none]
          intro x hx he
          have:=hno x hx
          simp only[Bool.and_eq_true,beq_iff_eq] at he
          simp[bkB,he.1] at this
        rw[this,Option.none_or,List.find?_cons,hne]
      · have hbe:bkB n e.hash=bkB n (hV d):=by
          funext x
          unfold bkB at hbk ⊢
          rw[beq_iff_eq] at hbk
          rw[hbk]
        rw[hN,hbe] at h9
        exact h9.to ⟨rfl,rfl,rfl,rfl,trivial⟩
      · rw[h9.look 10 rfl,hN]
        have hlen:R.length=(X++Z1).length+1+Z2.length:=by rw[hR7e];simp;omega
        cases hf2:Z2.find? (bkB n e.hash) with
        | none=>show 0<_;omega
        | some e2=>
          obtain⟨_,Y1,Y2,hY,_⟩:=List.find?_eq_some_iff_append.1 hf2
          show(R.map (·.g)).length-(R.map (·.g)).idxOf e2.g<_
          have hR2:R=((X++Z1)++e::Y1)++e2::Y2:=by rw[hR7e,hY];simp
          have hix2:(R.map (·.g)).idxOf e2.g=((X++Z1)++e::Y1).length:=by
            have hnd:=hR'.nd
            rw[hR2,List.map_append,List.map_cons] at hnd ⊢
            rw[List.idxOf_append,if_neg]
            · simp
            · intro hm
              have:=(List.nodup_append.1 hnd).2.2
              exact this _ hm _ List.mem_cons_self rfl
          rw[hix2,List.length_map]
          simp only[List.length_append,List.length_cons] at hlen ⊢
          omega
    refine wp_seq (wp_block ?_)
    have hhe:=hR7.ok e heR
    by_cases hhash:e.hash=hV d
    · refine Zs (Ax9 h8 rfl rfl (A9 hBe Tryz.underlying49 rfl (v:=.int .u64 e.hash) rfl) (decide_eq_true hhash) fun a9 h9=>wp_cond_true (h9.look 51 rfl) ?_)
      have hnf:=Oa (a:=e.key) hr hk
      have hB7:=hB4.below hb7 hB4.lt
      refine Zs (Cs9 (C:=fun u=>Below w7.heap.size w7 u) (b11:=eqO e.key d) (er12:=.nilIface) h9 rfl rfl (fun u hu=>Vq (hBe.below hu hBe.lt)) (fun u hu=>G8 (hB7.below hu hB7.lt))
        (fun u hu=>(Ay7 hhe.1 ho (hka.old hu) ((hd.old hb07).old hu) ((hown.old hb07).old hu)).mono fun e' w' hh=>by
          obtain⟨q1,b,v,q2,q3⟩:=hh
          have hre:=(hKO.right e heR).1
          rw[if_pos (by rw[show G3 e.key.h e.key.k=true from hre,show G3 d.h d.k=true from hr];rfl),if_pos hnf,if_pos hnf] at q3
          obtain⟨rfl,rfl⟩:=q3
          exact⟨q2,A7 hu q1⟩) (B3 (Below.refl _ _) 1) fun a10 w10 hb10 h10=> ?_)
      have hb6a:=A7 hb7 hb10
      have hb0a:=A7 hb07 hb10
      cases heq:eqO e.key d with
      | true=>
        rw[heq] at h10
        refine Zs (Vo h10 rfl rfl fun a11 h11=>wp_cond_true (h11.look 65 rfl) ?_)
        refine Zs (Ct0 h11 rfl rfl fun a12 h12=>wp_ret ?_)
        repeat (first | with_reducible refine D2 ?_ | with_reducible refine F1 ?_)
        refine fin h12 rfl rfl rfl hb0a ?_
        rw[hfE,hZ]
        unfold fE
        rw[List.find?_append]
        have:Z1.find? (fun e=>e.hash==hV d&&eqO e.key d)=none:=by
          rw[List.find?_eq_none]
          intro x hx he
          have:=hno x hx
          simp only[Bool.and_eq_true,beq_iff_eq] at he
          simp[bkB,he.1] at this
        rw[this,Option.none_or,List.find?_cons,show(e.hash==hV d&&eqO e.key d)=true by rw[heq,hhash];simp]
        rfl
      | false=>
        rw[heq] at h10
        refine Zs (Vp h10 rfl fun a11 h11=>B9 (h11.look 65 rfl) (B1 ?_))
        show Code.wp _ (R4 9) _ a11 w10
        exact next a11 w10 _ h11 ⟨rfl,rfl,rfl,rfl,trivial⟩ hb6a (by rw[heq];simp) _ (fun _ h=>h)
    · refine Zs (Ax9 h8 rfl rfl (A9 hBe Tryz.underlying49 rfl (v:=.int .u64 e.hash) rfl) (decide_eq_false hhash) fun a9 h9=>B9 (h9.look 51 rfl) (B1 ?_))
      show Code.wp _ (R4 9) _ a9 w7
      exact next a9 w7 _ h9 ⟨rfl,rfl,rfl,rfl,trivial⟩ hb7 (by simp[hhash]) _ (fun _ h=>h)
structure Two (w w':World) (g g':Nat):Prop where
 size:w'.heap.size=w.heap.size
 os:w'.os=w.os
 tape:w'.tape=w.tape
 output:w'.output=w.output
 block: ∀b,b≠g->b≠g'->w'.heap[b]? =w.heap[b]?
theorem E8(g:Nat): ∀(vs:List Value) (o:Nat) (w:World),(w.setCells g o vs).os=w.os/\(w.setCells g o vs).tape=w.tape/\(w.setCells g o vs).output=w.output
 | [],_,_=>⟨rfl,rfl,rfl⟩
 | v::r,o,w=>by
  obtain⟨h1,h2,h3⟩:=E8 g r (o+1) (w.setCell ⟨g,o,none⟩ v)
  exact⟨h1,h2,h3⟩
theorem Two.mk1(w:World)(g g' o:Nat)(vs:List Value):Two w (w.setCells g o vs) g g':=
 ⟨B7 g vs o w,(E8 g vs o w).1,(E8 g vs o w).2.1,(E8 g vs o w).2.2,fun b hb _=>B5 vs o w hb⟩
theorem Two.then{w w1:World}{g g':Nat}(h:Two w w1 g g')(o:Nat)(vs:List Value):Two w (w1.setCells g' o vs) g g':=
 ⟨(B7 g' vs o w1).trans h.size,((E8 g' vs o w1).1).trans h.os,((E8 g' vs o w1).2.1).trans h.tape,((E8 g' vs o w1).2.2).trans h.output,fun b hb hb'=>(B5 vs o w1 hb').trans (h.block b hb hb')⟩
theorem Two.drew{w w1:World}{g g':Nat}{n:Nat}(h:Two (w.drewN n) w1 g g'):Two w w1 g g':=⟨h.size,h.os,h.tape,h.output,h.block⟩
theorem Two.below{w w':World}{g g' B:Nat}(h:Two w w' g g')(hg:B<=g)(hg':B<=g')(hB:B<=w.heap.size):Below B w w':=
 ⟨h.os,h.tape,h.output,by rw[h.size];exact Nat.le_refl _,fun k hk=>h.block k Zo Zo⟩
set_option maxHeartbeats 1000000 in
theorem Fv{w:World}{m hb n:Nat}{fr tx:Option Addr}{many:Int}{H N B A:Nat->Option Addr}{R:List En}{D:Nat->Prop}(hR:Raw w m hb n fr tx many H N B A R D)(hn0:0<n)(hn1:n<=1099511627776){e:En}(he:e∈R):
  Calls Tryz.prog 100 #[pT m,pT e.g] w fun r w'=>r=.returned (.tuple #[])/\
   (Raw w' m hb n fr tx many (upd H (e.hash.toNat % n) (some e.p)) (upd N e.g (H (e.hash.toNat % n))) B A R D/\Two w w' e.g hb):=by
 obtain⟨cs,hBm,hz,c8,_⟩:=hR.map
 obtain⟨t,hs,hBh,hhz,hhs,_⟩:=hR.heads
 obtain⟨ma,mb,hBe,hka,hva⟩:=hR.ent e he
 obtain⟨ok1,ok2,ok3,ok4⟩:=hR.ok e he
 have hmod:e.hash % (n:Int)=((e.hash.toNat % n:Nat):Int):=by rw[Int.natCast_emod,Int.toNat_of_nonneg ok3]
 have hklt:e.hash.toNat % n<n:=Nat.mod_lt _ hn0
 refine B6 (vs:=[pT m,pT e.g]) 33 Tryz.func100 Bn9 Zk (by simp) fun a0 h0=> ?_
 unfold Ay2
 refine Zs (Eh4 h0 rfl rfl (A9 hBe Tryz.underlying49 rfl (v:=.int .u64 e.hash) rfl) (A9 hBm Tryz.underlying167 rfl c8) (fun w=>Ay8 n Zo w) (fun w=>Cu7 ok3 ok4 Zo w) fun a1 mm h1=> ?_)
 rw[hmod] at h1
 have hR1:Raw (w.drewN mm) m hb n fr tx many H N B A R D:=hR.old (B3 (Below.refl _ _) mm)
 obtain⟨cs1,hBm1,_,c81,_⟩:=hR1.map
 obtain⟨t1,hs1,hBh1,_,hhs1,_⟩:=hR1.heads
 obtain⟨_,_,hBe1,_,_⟩:=hR1.ent e he
 have hT:Two w (w.drewN mm) e.g hb:=⟨rfl,rfl,rfl,rfl,fun _ _ _=>rfl⟩
 have hR2:=(hR1.old (B3 (Below.refl _ _) 1)).setN he (H (e.hash.toNat % n))
 have hR3:=hR2.setH (e.hash.toNat % n) hklt (some ⟨e.g,0,none⟩)
 have hT3:Two w ((((w.drewN mm).drewN 1).setCells e.g 23 [.pointer (H (e.hash.toNat % n))]).setCells hb (e.hash.toNat % n) [pT e.g]) e.g hb:=
  ((Two.mk1 ((w.drewN mm).drewN 1) e.g hb 23 _).then _ _).drew.drew
 obtain⟨cs2,hBm2,_,c82,_⟩:=hR2.map
 obtain⟨t2,hs2,hBh2,hz2,hhs2,_⟩:=hR2.heads
 refine Zl (Eh5 (C:=fun u=>Lds Tryz.prog 167 (.pointer (some ⟨m,8,none⟩)) (.slice (some ⟨hb,0,none⟩) n n) u/\Lds Tryz.prog 161 (.pointer (some ⟨hb,e.hash.toNat % n,none⟩)) (.pointer (H (e.hash.toNat % n))) u)
  h1 rfl rfl rfl (fun u hu=>hu.1) (fun w=>Et2 hklt w) (fun u hu=>hu.2) ⟨A9 (hBm1.drewN 1) Tryz.underlying167 rfl c81,A9 (hBh1.drewN 1) Tryz.underlying161 rfl (hhs1 _ hklt)⟩
  (F2 (hBe1.drewN 1) Ft (by show 23<27;omega) rfl) ⟨A9 hBm2 Tryz.underlying167 rfl c82,A9 hBh2 Tryz.underlying161 rfl (hhs2 _ hklt)⟩
  (F2 hBh2 Ft Zo rfl) fun a2 h2=> ?_)
 exact bodyPost_end (results_none rfl _ _ _) h2.defers ⟨rfl,hR3,hT3⟩
end Go.Proofs.YtbjegfpfmnleeaaGreatDoor
