/-
   Written by an AI agent.
-/
import Derived.Test.YtbjegfpfmnleeaaGreatDoorQw09
import Derived.Test.YtbjegfpfmnleeaaGreatDoorQw05
import Derived.Test.YtbjegfpfmnleeaaGreatDoorQw06
namespace Go.Proofs.YtbjegfpfmnleeaaGreatDoor
open Go.RowKit Go.Sort
theorem head_more{h:Hd}{n:Nat}(hh:headB h n=true):(h.kind=3\/h.f=0)/\(h.kind=5\/h.kind=6\/h.kind=7\/h.kind=9\/(h.obj=0/\h.path=[]))/\(n=0\/h.kind=8):=by
 simp only[headB,okB,ok2B,Bool.and_eq_true,Bool.or_eq_true,decide_eq_true_iff] at hh
 obtain⟨⟨⟨⟨h1,hl⟩,⟨⟨_,hf⟩,_⟩⟩,hn⟩,_⟩:=hh
 refine⟨?_, ?_,hn⟩
 ·rcases hf with h | ⟨h,_⟩
  ·exact .inr h
  ·exact .inl h
 by_cases h5:h.kind=5
 ·exact .inl h5
 by_cases h6:h.kind=6
 ·exact .inr (.inl h6)
 by_cases h7:h.kind=7
 ·exact .inr (.inr (.inl h7))
 by_cases h9:h.kind=9
 ·exact .inr (.inr (.inr (.inl h9)))
 refine .inr (.inr (.inr (.inr ?_)))
 unfold leadsB at hl
 by_cases hob:h.obj<0\/2147483647<h.obj
 ·rw[if_pos hob] at hl;cases hl
 rw[if_neg hob,if_neg h5,if_neg (by omega)] at hl
 unfold plainB at hl
 rw[decide_eq_true_iff] at hl
 exact⟨hl.1,List.eq_nil_of_length_eq_zero (by have:=hl.2.2.2.2;omega)⟩
theorem feq_nan{a b:Nat}(h:feqB a b=true):nanB a=false/\nanB b=false/\placeF a=placeF b:=by
 unfold feqB at h
 rw[Bool.and_eq_true,Bool.and_eq_true,decide_eq_true_iff] at h
 exact⟨by simpa using h.1.1,by simpa using h.1.2,h.2⟩
theorem feq_mk{a b:Nat}(h1:nanB a=false)(h2:nanB b=false)(h3:placeF a=placeF b):feqB a b=true:=by
 unfold feqB;rw[h1,h2,decide_eq_true h3];rfl
theorem feq_same{a b:Int}(a0:0<=a)(a1:a<=18446744073709551615)(b0:0<=b)(b1:b<=18446744073709551615)(h:feqB a.toNat b.toNat=true):a=b\/(feqB a.toNat 0=true/\feqB b.toNat 0=true):=by
 obtain⟨n1,n2,hp⟩:=feq_nan h
 by_cases hz:placeF a.toNat=0
 ·exact .inr ⟨feq_mk n1 (by decide) (by rw[hz];decide),feq_mk n2 (by decide) (by rw[<-hp,hz];decide)⟩
 ·refine .inl ?_
  unfold placeF at hp hz
  by_cases s1:a.toNat / 9223372036854775808 % 2=1
  ·rw[if_pos s1] at hp hz
   by_cases s2:b.toNat / 9223372036854775808 % 2=1
   ·rw[if_pos s2] at hp;omega
   ·rw[if_neg s2] at hp;omega
  ·rw[if_neg s1] at hp hz
   by_cases s2:b.toNat / 9223372036854775808 % 2=1
   ·rw[if_pos s2] at hp;omega
   ·rw[if_neg s2] at hp;omega
theorem oneB_parts{h h':Hd}(ho:oneB h h'=true):h.kind=h'.kind/\h.type=h'.type:=of_decide_eq_true ho
theorem hash1_eq{h h':Hd}(ho:oneB h h'=true)(hs:h.s=h'.s):hash1 h=hash1 h':=by
 unfold hash1 bytesH
 rw[(oneB_parts ho).1,(oneB_parts ho).2,hs]
theorem hash2_eq{h h':Hd}(ho:oneB h h'=true)(hs:h.s=h'.s)(hf:h.f=h'.f):hash2 h=hash2 h':=by
 unfold hash2;rw[hash1_eq ho hs,hf]
theorem hash3_of{h h':Hd}(h2:hash2 h=hash2 h')(hn:h.n=h'.n)(hob:h.obj=h'.obj)(hp:h.path=h'.path):hash3 h=hash3 h':=by
 unfold hash3;rw[h2,hn,hob,hp]
theorem hash3_eq{h h':Hd}{n n':Nat}(o:h.ok)(o':h'.ok)(h1:headB h n=true)(h2:headB h' n'=true)(ho:oneB h h'=true)(he:h.kind≠8->(equalH h h').1=true):hash3 h=hash3 h':=by
 obtain⟨a0,a9,an,asz,_⟩:=head_facts h1
 obtain⟨b0,b9,bn,bsz,_⟩:=head_facts h2
 obtain⟨af,ar,_⟩:=head_more h1
 obtain⟨bf,br,_⟩:=head_more h2
 have hk:=(oneB_parts ho).1
 by_cases h8:h.kind=8
 ·obtain⟨x1,x2⟩:h.obj=0/\h.path=[]:=by rcases ar with h | h | h | h | h<;>first | exact h | omega
  obtain⟨y1,y2⟩:h'.obj=0/\h'.path=[]:=by rcases br with h | h | h | h | h<;>first | exact h | omega
  exact hash3_of (hash2_eq ho (by rw[size_emp (show h.s.size=0 by omega),size_emp (show h'.s.size=0 by omega)]) (by omega)) (by omega) (by omega) (by rw[x2,y2])
 have he:=he h8
 unfold equalH at he
 by_cases h3:h.kind=3
 ·rw[if_pos h3] at he
  obtain⟨x1,x2⟩:h.obj=0/\h.path=[]:=by rcases ar with h | h | h | h | h<;>first | exact h | omega
  obtain⟨y1,y2⟩:h'.obj=0/\h'.path=[]:=by rcases br with h | h | h | h | h<;>first | exact h | omega
  have es:h.s=h'.s:=by rw[size_emp (show h.s.size=0 by omega),size_emp (show h'.s.size=0 by omega)]
  refine hash3_of ?_ (by omega) (by omega) (by rw[x2,y2])
  rcases feq_same o.f0 o.f1 o'.f0 o'.f1 he with hf | ⟨f1,f2⟩
  ·exact hash2_eq ho es hf
  ·unfold hash2
   rw[f1,f2,hash1_eq ho es,if_neg (by simp),if_neg (by simp)]
 rw[if_neg h3] at he
 have ef:h.f=h'.f:=by omega
 by_cases h5:h.kind=5\/h.kind=6\/h.kind=7
 ·rw[if_pos h5] at he;cases he
 rw[if_neg h5] at he
 by_cases h9:h.kind=9
 ·rw[if_pos h9] at he
  have he:h.obj=h'.obj/\h.path=h'.path:=of_decide_eq_true he
  exact hash3_of (hash2_eq ho (by rw[size_emp (show h.s.size=0 by omega),size_emp (show h'.s.size=0 by omega)]) ef) (by omega) he.1 he.2
 rw[if_neg h9] at he
 have he:h.n=h'.n/\h.s=h'.s:=of_decide_eq_true he
 obtain⟨x1,x2⟩:h.obj=0/\h.path=[]:=by rcases ar with h | h | h | h | h<;>first | exact h | omega
 obtain⟨y1,y2⟩:h'.obj=0/\h'.path=[]:=by rcases br with h | h | h | h | h<;>first | exact h | omega
 exact hash3_of (hash2_eq ho he.2 ef) he.1 (by omega) (by rw[x2,y2])
theorem eqD_parts{h h':Hd}{k k':Fo}(h1:headB h k.len=true)(h2:headB h' k'.len=true)(ht:(equalD h k h' k').1=true):oneB h h'=true/\k.len=k'.len/\(equalF k k').1=true/\(h.kind≠8->(equalH h h').1=true):=by
 unfold equalD at ht
 by_cases ho:oneB h h'=false
 ·rw[if_pos ho] at ht;cases ht
 rw[if_neg ho] at ht
 have ho':oneB h h'=true:=by revert ho;cases oneB h h'<;>simp
 refine⟨ho', ?_⟩
 by_cases h8:h.kind=8
 ·rw[if_pos h8] at ht
  by_cases hl:k.len≠k'.len
  ·rw[if_pos hl] at ht;cases ht
  ·rw[if_neg hl] at ht
   exact⟨by omega,ht,fun h=>absurd h8 h⟩
 ·rw[if_neg h8] at ht
  have hk:=(oneB_parts ho').1
  have l1:k.len=0:=by have:=(head_more h1).2.2;omega
  have l2:k'.len=0:=by have:=(head_more h2).2.2;omega
  refine⟨by omega, ?_,fun _=>ht⟩
  rw[Fo.len_eq_zero k l1]
  simp[equalF]
theorem hashF_eq: ∀(f g:Fo),f.ok->g.ok->okF f=true->okF g=true->f.len=g.len->(equalF f g).1=true->∀a,hashF f a=hashF g a
 | .nil,.nil,_,_,_,_,_,_,a=>rfl
 | .nil,.cons h k r,_,_,_,_,hl,_,a=>by simp[Fo.len] at hl
 | .cons h k r,.nil,_,_,_,_,hl,_,a=>by simp[Fo.len] at hl
 | .cons h k r,.cons h' k' r',o,o',e,e',hl,he,a=>by
  simp only[okF,Bool.and_eq_true] at e e'
  rw[equalF_cons] at he
  by_cases ht:(equalD h k h' k').1=true
  ·rw[if_pos ht] at he
   obtain⟨p1,p2,p3,p4⟩:=eqD_parts e.1.1 e'.1.1 ht
   rw[hashF,hashF,hash3_eq o.1 o'.1 e.1.1 e'.1.1 p1 p4,hashF_eq k k' o.2.1 o'.2.1 e.1.2 e'.1.2 p2 p3]
   exact hashF_eq r r' o.2.2.1 o'.2.2.1 e.2 e'.2 (by simp[Fo.len] at hl;exact hl) he _
  ·rw[if_neg ht] at he;cases he
theorem hashD_eq{h h':Hd}{k k':Fo}(o:h.ok)(o':h'.ok)(ok_:k.ok)(ok':k'.ok)(h1:rightB h k=true)(h2:rightB h' k'=true)(ht:(equalD h k h' k').1=true):hashD h k=hashD h' k':=by
 obtain⟨a1,a2⟩:=right_ok h1
 obtain⟨b1,b2⟩:=right_ok h2
 obtain⟨p1,p2,p3,p4⟩:=eqD_parts a1 b1 ht
 unfold hashD
 rw[hash3_eq o o' a1 b1 p1 p4]
 exact hashF_eq k k' ok_ ok' a2 b2 p2 p3 _
theorem tyO_none{h:Hd}{k:Fo}(h0:h.kind=0):tyO h k=none:=by
 unfold tyO
 rw[if_neg (by omega),if_neg (by omega),if_neg (by omega),if_neg (by omega),if_neg (by omega),if_neg (by omega),if_neg (by omega)]
theorem tyO_some{h:Hd}{k:Fo}(h0:h.kind≠0)(h1:0<=h.kind)(h9:h.kind<=9): ∃t,tyO h k=some t:=by
 unfold tyO
 by_cases a1:h.kind=1
 ·rw[if_pos a1];exact⟨_,rfl⟩
 rw[if_neg a1]
 by_cases a2:h.kind=2\/h.kind=3
 ·rw[if_pos a2];exact⟨_,rfl⟩
 rw[if_neg a2]
 by_cases a4:h.kind=4
 ·rw[if_pos a4];exact⟨_,rfl⟩
 rw[if_neg a4]
 by_cases a5:h.kind=5
 ·rw[if_pos a5];exact⟨_,rfl⟩
 rw[if_neg a5]
 by_cases a6:h.kind=6\/h.kind=7
 ·rw[if_pos a6];exact⟨_,rfl⟩
 rw[if_neg a6]
 by_cases a9:h.kind=9
 ·rw[if_pos a9];exact⟨_,rfl⟩
 rw[if_neg a9,if_pos (by omega)]
 by_cases hh:heldS h k=emp
 ·rw[if_pos hh];exact⟨_,rfl⟩
 ·rw[if_neg hh];exact⟨_,rfl⟩
theorem hashV_eq{h h':Hd}{k k':Fo}(o:h.ok)(o':h'.ok)(ok_:k.ok)(ok':k'.ok)(h1:rightB h k=true)(h2:rightB h' k'=true)(ht:(equalD h k h' k').1=true):hashV h k=hashV h' k':=by
 obtain⟨p1,_⟩:=eqD_parts (right_ok h1).1 (right_ok h2).1 ht
 have hk:=(oneB_parts p1).1
 obtain⟨a0,a9,_⟩:=head_facts (right_ok h1).1
 unfold hashV
 by_cases h0:h.kind=0
 ·rw[tyO_none h0,tyO_none (by omega)]
 ·obtain⟨t,e⟩:=tyO_some (k:=k) h0 a0 a9
  obtain⟨t',e'⟩:=tyO_some (h:=h') (k:=k') (by omega) (by omega) (by omega)
  rw[e,e']
  exact hashD_eq o o' ok_ ok' h1 h2 ht
theorem held_own(h:Hd)(k:Fo):heldS h k=if h.kind=8 then(equalF k k).2 else(equalH h h).2:=by
 unfold heldS equalD
 rw[if_neg (by rw[oneB_refl];simp)]
 by_cases h8:h.kind=8
 ·rw[if_pos h8,if_pos h8,if_neg (by simp)]
 ·rw[if_neg h8,if_neg h8]
theorem key_held{h:Hd}{k:Fo}(hr:rightB h k=true):keyB h k=decide (heldS h k=emp):=by
 obtain⟨a0,a9,_,_,ant⟩:=head_facts (right_ok hr).1
 have ho:=held_own h k
 unfold keyB
 by_cases h0:h.kind=0
 ·rw[if_neg (by omega)] at ho
  rw[tyO_none h0,ho]
  unfold equalH
  rw[if_neg (by omega),if_neg (by omega),if_neg (by omega)]
  simp
 by_cases h8:h.kind=8
 ·unfold tyO
  rw[if_neg (by omega),if_neg (by omega),if_neg (by omega),if_neg (by omega),if_neg (by omega),if_neg (by omega),if_pos h8]
  by_cases hh:heldS h k=emp
  ·rw[if_pos hh,decide_eq_true hh];rfl
  ·rw[if_neg hh,decide_eq_false hh];rfl
 rw[if_neg h8] at ho
 rw[ho]
 unfold tyO equalH
 by_cases a1:h.kind=1
 ·rw[if_pos a1,if_neg (by omega),if_neg (by omega),if_neg (by omega),decide_eq_true rfl];rfl
 rw[if_neg a1]
 by_cases a3:h.kind=3
 ·rw[if_pos (.inr a3),if_pos a3,decide_eq_true rfl];rfl
 by_cases a2:h.kind=2
 ·rw[if_pos (.inl a2),if_neg (by omega),if_neg (by omega),if_neg (by omega),decide_eq_true rfl];rfl
 rw[if_neg (by omega)]
 by_cases a4:h.kind=4
 ·rw[if_pos a4,if_neg (by omega),if_neg (by omega),if_neg (by omega),decide_eq_true rfl];rfl
 rw[if_neg a4]
 by_cases a5:h.kind=5
 ·rw[if_pos a5,if_neg (by omega),if_pos (by omega),decide_eq_false (named_type ant (by omega))];rfl
 rw[if_neg a5]
 by_cases a6:h.kind=6\/h.kind=7
 ·rw[if_pos a6,if_neg (by omega),if_pos (by omega),decide_eq_false (named_type ant (by omega))];rfl
 rw[if_neg a6]
 have a9':h.kind=9:=by omega
 rw[if_pos a9',if_neg (by omega),if_neg (by omega),if_pos a9',decide_eq_true rfl];rfl
theorem eqH_self{h h':Hd}(ho:oneB h h'=true)(he:(equalH h h').1=true):equalH h' h'=(true,emp):=by
 have hk:=(oneB_parts ho).1
 unfold equalH at he ⊢
 by_cases h3:h.kind=3
 ·rw[if_pos h3] at he
  obtain⟨_,n2,_⟩:=feq_nan he
  rw[if_pos (by omega),feq_mk n2 n2 rfl]
 rw[if_neg h3] at he
 by_cases h5:h.kind=5\/h.kind=6\/h.kind=7
 ·rw[if_pos h5] at he;cases he
 rw[if_neg (by omega),if_neg (by omega)]
 by_cases h9:h.kind=9
 ·rw[if_pos (by omega)];simp
 ·rw[if_neg (by omega)];simp
theorem eqF_self: ∀(f g:Fo),f.len=g.len->(equalF f g).1=true->equalF g g=(true,emp)
 | .nil,.nil,_,_=>by simp[equalF]
 | .nil,.cons h k r,hl,_=>by simp[Fo.len] at hl
 | .cons h k r,.nil,hl,_=>by simp[Fo.len] at hl
 | .cons h k r,.cons h' k' r',hl,he=>by
  rw[equalF_cons] at he
  by_cases ht:(equalD h k h' k').1=true
  ·rw[if_pos ht] at he
   have hd:equalD h' k' h' k'=(true,emp):=by
    unfold equalD at ht ⊢
    by_cases ho:oneB h h'=false
    ·rw[if_pos ho] at ht;cases ht
    rw[if_neg ho] at ht
    have ho':oneB h h'=true:=by revert ho;cases oneB h h'<;>simp
    have hk:=(oneB_parts ho').1
    rw[if_neg (by rw[oneB_refl];simp)]
    by_cases h8:h.kind=8
    ·rw[if_pos h8] at ht
     by_cases hll:k.len≠k'.len
     ·rw[if_pos hll] at ht;cases ht
     ·rw[if_neg hll] at ht
      rw[if_pos (by omega),if_neg (by simp)]
      exact eqF_self k k' (by omega) ht
    ·rw[if_neg h8] at ht
     rw[if_neg (by omega)]
     exact eqH_self ho' ht
   rw[equalF_cons,hd,if_pos rfl]
   exact eqF_self r r' (by simp[Fo.len] at hl;exact hl) he
  ·rw[if_neg ht] at he;cases he
theorem eqD_self{h h':Hd}{k k':Fo}(ht:(equalD h k h' k').1=true):equalD h' k' h' k'=(true,emp):=by
 unfold equalD at ht ⊢
 by_cases ho:oneB h h'=false
 ·rw[if_pos ho] at ht;cases ht
 rw[if_neg ho] at ht
 have ho':oneB h h'=true:=by revert ho;cases oneB h h'<;>simp
 have hk:=(oneB_parts ho').1
 rw[if_neg (by rw[oneB_refl];simp)]
 by_cases h8:h.kind=8
 ·rw[if_pos h8] at ht
  by_cases hll:k.len≠k'.len
  ·rw[if_pos hll] at ht;cases ht
  ·rw[if_neg hll] at ht
   rw[if_pos (by omega),if_neg (by simp)]
   exact eqF_self k k' (by omega) ht
 ·rw[if_neg h8] at ht
  rw[if_neg (by omega)]
  exact eqH_self ho' ht
end Go.Proofs.YtbjegfpfmnleeaaGreatDoor

namespace Go.Proofs.YtbjegfpfmnleeaaGreatDoor
open Go.RowKit
set_option maxRecDepth 100000
def rB(d:Dt):Bool:=rightB d.h d.k
def kB(d:Dt):Bool:=keyB d.h d.k
def hV(d:Dt):Int:=hashV d.h d.k
def eqO(a b:Dt):Bool:=(equalD a.h a.k b.h b.k).1
theorem vRight{d:Dt}{m:Dm}{S:Nat->Prop}{w:World}(ho:d.ok)(hd:d.at w S m)(hown:OwnAt w):Calls Tryz.prog 65 #[.agg (d.cs m)] w fun e w'=>e=.returned (.bool (rB d))/\Below w.heap.size w w':=
 Right_any d.h d.k ho.h ho.k w S m.pa m.pc m.ia m.ic hd hown
theorem vKey{d:Dt}{m:Dm}{S:Nat->Prop}{w:World}(ho:d.ok)(hd:d.at w S m)(hown:OwnAt w):Calls Tryz.prog 115 #[.agg (d.cs m)] w (KeyPost d.h d.k w):=
 key_any d.h d.k ho.h ho.k ho.len w S m.pa m.pc m.ia m.ic hd hown
theorem vHash{d:Dt}{m:Dm}{S:Nat->Prop}{w:World}(ho:d.ok)(hd:d.at w S m)(hown:OwnAt w):Calls Tryz.prog 116 #[.agg (d.cs m)] w (HashPost d.h d.k w):=
 Hash_any d.h d.k ho.h ho.k ho.len w S m.pa m.pc m.ia m.ic hd hown
theorem vEqual{d d':Dt}{m m':Dm}{S T:Nat->Prop}{w:World}(ho:d.ok)(ho':d'.ok)(hd:d.at w S m)(hd':d'.at w T m')(hown:OwnAt w):Calls Tryz.prog 99 #[.agg (d.cs m),.agg (d'.cs m')] w (EqualPost d.h d.k d'.h d'.k w):=
 Equal_any d.h d.k d'.h d'.k ho.h ho.k ho'.h ho'.k w S T m.pa m.pc m.ia m.ic m'.pa m'.pc m'.ia m'.ic hd hd' hown
theorem OwnAt.old{w w':World}(h:OwnAt w)(hb:Below w.heap.size w w'):OwnAt w':=h.below hb (Nat.le_refl _)
theorem range_old{w w':World}{g o:Nat}{vs:List Value}(h:w.rangeAt g o vs)(hb:Below w.heap.size w w')(hg:g<w.heap.size):w'.rangeAt g o vs:=fun j v hj=>(hb.cell (p:=⟨g,o+j,none⟩) hg).trans (h j v hj)
theorem over_dat{w:World}{g:Nat}{t:TypeId}{cs:Array Value}(h:Blk w g t cs)(hz:cs.size=11)(d:Dt)(m:Dm):Blk (w.setCells g 0 (d.cs m).toList) g t (d.cs m):=by
 obtain⟨l⟩:=cs
 have hz:l.length=11:=hz
 match l,hz with
 | [a0,a1,a2,a3,a4,a5,a6,a7,a8,a9,a10],_=>
  have e:((d.cs m).toList.foldl (fun(p:Array Value×Nat) v=>(p.1.setIfInBounds p.2 v,p.2+1)) ((⟨[a0,a1,a2,a3,a4,a5,a6,a7,a8,a9,a10]⟩:Array Value),0)).1=d.cs m:=by kernel_rfl
  have h2:=Blk.setL (d.cs m).toList 0 _ _ h
  rw[e] at h2
  exact h2
theorem dat_whole{w:World}{g:Nat}{t:TypeId}{d:Dt}{m:Dm}(h:Blk w g t (d.cs m)):Lds Tryz.prog 53 (.pointer (some ⟨g,0,none⟩)) (.agg (d.cs m)) w:=dat_load h rfl
def zeroC:Array Value:=#[.int .i64 0,.string ⟨#[]⟩,.int .i64 0,.int .u64 0,.string ⟨#[]⟩,.int .i64 0,.int .i64 0,.int .i64 0,.int .i64 0,.slice none 0 0,.slice none 0 0]
theorem ix_u{n cap k g:Nat}(hk:k<n)(w:World):(Instr.indexAt 167 (.slice (some ⟨g,0,none⟩) n cap) (.int .u64 (k:Int))).run Tryz.prog w=.ok (.pointer (some ⟨g,k,none⟩)) w:=by
 obtain⟨i,hi1,hi2⟩:=Option.map_eq_some_iff.1 ptrInf
 have ha:(⟨g,0,none⟩:Addr).add k=⟨g,k,none⟩:=by
  unfold Addr.add
  split
  ·rename_i h;rw[h]
  ·simp
 simp[Instr.indexAt,asIntOf,run_underlying Tryz.underlying167,sizeOf,typeInfo,hi1,hi2,ha]
 omega
theorem rem_u{a b:Int}(h0:0<=a)(h1:a<=18446744073709551615)(hb:0<b)(w:World):(binOp .rem 49 (.int .u64 a) (.int .u64 b)).run Tryz.prog w=.ok (.int .u64 (a % b)) w:=by
 have e:a.tmod b=a % b:=Int.tmod_eq_emod_of_nonneg h0
 have h2:=Int.emod_nonneg a (show b≠0 by omega)
 have h3:a % b<=a:=by
  by_cases q:a<b
  ·rw[Int.emod_eq_of_lt h0 q];exact Int.le_refl _
  ·have:=Int.emod_lt_of_pos a hb;omega
 have hw:IntKind.u64.wrap (a % b)=a % b:=in_wrap ⟨by simpa[IntKind.min,IntKind.signed] using h2,by simp[IntKind.max,IntKind.signed,IntKind.bits];omega⟩
 have hb': ¬b=0:=by omega
 simp only[binOp,Op.intArith,Op.intDiv]
 simp[hb',e,hw]
theorem conv_u(n:Nat)(hn:n<=9223372036854775807)(w:World):(convert 3 49 (.int .i64 (n:Int))).run Tryz.prog w=.ok (.int .u64 (n:Int)) w:=by
 have hw:IntKind.u64.wrap (n:Int)=(n:Int):=in_wrap ⟨by simp[IntKind.min,IntKind.signed],by simp[IntKind.max,IntKind.signed,IntKind.bits];omega⟩
 simp[convert,run_underlying Tryz.underlying3,run_underlying Tryz.underlying49,Conv.intToInt,hw]
set_option maxHeartbeats 1000000 in
theorem kright_any(L:List (Dt×Dm))(hL:L.length<=1000)(g cap:Nat)(w:World)(hown:OwnAt w)(hlt:g<w.heap.size)(hrow: ∀(j:Nat) (d:Dt) (m:Dm),L[j]? =some (d,m)->w.rangeAt g (j*11) (d.cs m).toList/\d.ok/\∃S,d.at w S m):
  Calls Tryz.prog 95 #[.slice (some ⟨g,0,none⟩) L.length cap] w fun e w'=> ∃v,e=.returned v/\((if L.all (fun p=>rB p.1)=true then v=.nilIface else WrongAt w w' v)/\Below w.heap.size w w'):=by
 refine calls_ev (vs:=[.slice (some ⟨g,0,none⟩) L.length cap]) 18 Tryz.func95 ki_body (by kernel_rfl) (by simp) fun a0 h0=> ?_
 unfold kiBody
 refine wp_seq (rg_wp (ki_r0 h0 fun a1 h1=> ?_))
 refine wp_seq (wp_seq (rg_wp (ki_r1 h1 rfl fun a2 h2=> ?_)))
 refine wp_block ?_
 refine wp_loop (fun a' wr=> ∃j:Nat,j<=L.length/\(∀i p,i<j->L[i]? =some p->rB p.1=true)/\Sl 18 a' [(7,.int .i64 (j:Int)),(6,.int .i64 (L.length:Int)),(5,.slice (some ⟨g,0,none⟩) L.length cap)]/\Below w.heap.size w wr) (fun a' _=>muTo L.length (slot a' 7))
  ⟨0,by omega,fun i p h=>by omega,h2.to ⟨rfl,rfl,rfl,trivial⟩,Below.refl _ _⟩ ?_
 rintro a3 w3 ⟨j,hj,hall,h3,hb3⟩
 rw[h3.look 7 rfl,muTo_int]
 unfold kiL0
 by_cases hlt':j<L.length
 ·refine wp_seq (rg_wp (ki_r2 h3 rfl rfl (decide_eq_true (by omega)) fun a4 h4=> ?_))
  refine wp_seq (wpn (h4.look 8 rfl) ?_)
  obtain⟨⟨d,m⟩,hdm⟩: ∃p,L[j]? =some p:=⟨L[j],by simp[hlt']⟩
  obtain⟨hr,ho,S,hd⟩:=hrow j d m hdm
  have hz:=Blk.new w3 53 zeroC
  refine wp_seq (wp_block ?_)
  refine wp_seq (rg_wp (ki_r3 h4 rfl rfl (fun w=>ix_at (o:=j*11) (sz:=11) j rfl Tryz.underlying23 datInf hlt' rfl w) (ldsA (cs:=(d.cs m).toList) Tryz.underlying53 rfl datInf (range_old hr hb3 hlt)) (dat_store (d:=d) (m:=m) hz (by decide)) fun a5 h5=> ?_))
  have hB:=over_dat hz rfl d m
  have hb5:=below_setCells (d.cs m).toList 0 _ (bl_alloc (Below.refl w3.heap.size w3) (.cells zeroC 53)) (Nat.le_refl _)
  change Blk (World.setCells (w3.alloc (.cells zeroC 53)) w3.heap.size 0 (d.cs m).toList) _ _ _ at hB
  show Code.wp _ _ _ a5 (World.setCells (w3.alloc (.cells zeroC 53)) w3.heap.size 0 (d.cs m).toList)
  generalize World.setCells (w3.alloc (.cells zeroC 53)) w3.heap.size 0 (d.cs m).toList=w5 at hB hb5 ⊢
  have hb05:=bl_trans hb3 hb5
  refine wp_seq (rg_wp (ki_r4 h5 rfl (dat_whole hB) (vRight ho (hd.old hb05) (hown.old hb05)) fun a6 w6 hb6 h6=> ?_))
  have hb06:=bl_trans hb05 hb6
  cases hrB:rB d with
  | true=>
   rw[hrB] at h6
   refine wpc_off (h6.look 13 rfl) (block_norm ?_)
   show Code.wp _ (r_ki 6) _ a6 w6
   refine wpl (rg_wp (ki_r6 h6 rfl (by omega) fun a7 h7=> ?_))
   refine⟨⟨j+1,by omega,fun i p hi hp=> ?_,h7.to ⟨rfl,rfl,rfl,trivial⟩,hb06⟩, ?_⟩
   ·rcases Nat.lt_or_ge i j with q | q
    ·exact hall i p q hp
    ·obtain rfl:i=j:=by omega
     rw[hdm] at hp
     injection hp with hp
     subst hp
     exact hrB
   ·rw[h7.look 7 rfl]
    show muTo L.length (.int .i64 ((j+1:Nat):Int))<_
    rw[muTo_int]
    omega
  | false=>
   rw[hrB] at h6
   refine wp_cond_true (h6.look 13 rfl) ?_
   refine wp_seq (rg_wp (ki_r5 h6 fun a7 h7=>wp_ret ?_))
   repeat (first | with_reducible refine then_ret ?_ | with_reducible refine block_ret ?_)
   refine ret1 rfl h7 rfl ⟨_,rfl, ?_,bl_alloc hb06 _⟩
   rw[if_neg (by
    rw[List.all_eq_true]
    intro hh
    have:=hh (d,m) (List.mem_of_getElem? hdm)
    rw[show rB (d,m).1=false from hrB] at this
    cases this)]
   exact⟨_,rfl,Blk.new _ _ _,hb06.size⟩
 ·refine wp_seq (rg_wp (ki_r2 h3 rfl rfl (decide_eq_false (by omega)) fun a4 h4=> ?_))
  refine wp_seq (wpc_exit (h4.look 8 rfl) ?_)
  refine then_exit' (then_exit' (in_block2 ?_))
  show Code.wp _ (Code.seq (r_ki 7) .ret) _ a4 w3
  refine wp_seq (rg_wp (ki_r7 h4 fun a5 h5=>wp_ret ?_))
  refine ret1 rfl h5 rfl ⟨_,rfl, ?_,hb3⟩
  rw[if_pos (by
   rw[List.all_eq_true]
   intro p hp
   obtain⟨i,hi⟩:=List.mem_iff_getElem?.1 hp
   exact hall i p (by have:=(List.getElem?_eq_some_iff.1 hi).1;omega) hi)]
def bkB(n:Nat)(h:Int)(x:En):Bool:=x.hash.toNat % n==h.toNat % n
def Links(n:Nat)(R:List En)(N B A:Nat->Option Addr):Prop:= ∀X e Z,R=X++e::Z->N e.g=pO (Z.find? (bkB n e.hash))/\B e.g=pO Z.head? /\A e.g=pO X.getLast?
def HeadsOk(n:Nat)(R:List En)(H:Nat->Option Addr):Prop:= ∀i,i<n->H i=pO (R.find? (fun x=>x.hash.toNat % n==i))
structure KeysOk (R:List En):Prop where
 right: ∀e∈R,rB e.key=true/\kB e.key=true
 num: ∀e∈R,e.hash=hV e.key/\e.own=eqO e.key e.key
def MapAt(w:World)(m:Nat)(R:List En)(D O:Nat->Prop):Prop:= ∃hb n H N B A,0<n/\n<=1099511627776/\Raw w m hb n (pO R.getLast?) (pO R.head?) (R.length:Int) H N B A R D/\HeadsOk n R H/\Links n R N B A/\KeysOk R/\(O m/\O hb/\(∀e∈R,O e.g)/\∀b,O b->b<w.heap.size)
theorem MapAt.old{w w':World}{m:Nat}{R:List En}{D O:Nat->Prop}(h:MapAt w m R D O)(hb:Below w.heap.size w w'):MapAt w' m R D O:=
 let⟨a,b,c,d,e,f,h1,h2,h3,h4,h5,h6,o1,o2,o3,o4⟩:=h;⟨a,b,c,d,e,f,h1,h2,h3.old hb,h4,h5,h6,o1,o2,o3,fun b hb'=>Nat.lt_of_lt_of_le (o4 b hb') hb.size⟩
theorem MapAt.mlt{w:World}{m:Nat}{R:List En}{D O:Nat->Prop}(h:MapAt w m R D O):m<w.heap.size:=
 let⟨_,_,_,_,_,_,_,_,h3,_⟩:=h;h3.mlt
def fE(R:List En)(d:Dt):Option En:=R.find? (fun e=>e.hash==hV d&&eqO e.key d)
def u64R(x:Int):Prop:=0<=x/\x<=18446744073709551615
theorem wrap_r(x:Int):u64R (IntKind.u64.wrap x):=by
 unfold u64R
 simp[IntKind.wrap,IntKind.signed,IntKind.bits]
 omega
theorem mixL_r: ∀(l:List Int) (a:Int),u64R a->u64R (mixL l a)
 | [],_,h=>h
 | x::r,a,_=>by unfold mixL;exact mixL_r r _ (wrap_r _)
theorem hashF_r: ∀(f:Fo) (a:Int),u64R a->u64R (hashF f a)
 | .nil,_,h=>by unfold hashF;exact h
 | .cons h k r,a,_=>by unfold hashF;exact hashF_r r _ (wrap_r _)
theorem hash_range(d:Dt):0<=hV d/\hV d<=18446744073709551615:=by
 have h: ∀(h:Hd) (k:Fo),u64R (hashD h k):=fun h k=>hashF_r k _ (mixL_r _ _ (wrap_r _))
 unfold hV hashV
 split<;>exact h _ _
theorem knew_any(w:World):Calls Tryz.prog 91 #[] w fun e w'=>e=.returned (.pointer (some ⟨w.heap.size,0,none⟩))/\MapAt w' w.heap.size [] (fun _=>False) (fun b=>b=w.heap.size)/\Below w.heap.size w w':=by
  refine calls_ev (vs:=[]) 12 Tryz.func91 kn_body (by kernel_rfl) (by simp) fun a0 h0=> ?_
  unfold knBody
  refine wp_seq (rg_wp (kn_r0 h0 fun a1 h1=> ?_))
  refine wp_seq (rg_wp (kn_r1 h1 fun a2 h2=> ?_))
  have hB:=Blk.new w mapT #[.pointer none,.pointer none,.pointer none,.pointer none,.pointer none,.pointer none,.pointer none,.pointer none,.slice none 0 0,.pointer none,.pointer none,.int .i64 0]
  have hb1:=bl_alloc (Below.refl w.heap.size w) (.cells #[.pointer none,.pointer none,.pointer none,.pointer none,.pointer none,.pointer none,.pointer none,.pointer none,.slice none 0 0,.pointer none,.pointer none,.int .i64 0] mapT)
  generalize w.alloc (.cells #[.pointer none,.pointer none,.pointer none,.pointer none,.pointer none,.pointer none,.pointer none,.pointer none,.slice none 0 0,.pointer none,.pointer none,.int .i64 0] mapT)=w1 at hB hb1 ⊢
  have hsl: ∀w',(Instr.sliceAt 166 (.pointer (some ⟨w.heap.size,0,none⟩)) none none none).run Tryz.prog w'=.ok (.slice (some ⟨w.heap.size,0,none⟩) 8 8) w':=fun w'=>by kernel_rfl
  refine wp_seq (rg_wp (kn_r2 h2 rfl hsl (one_store hB (by kernel_rfl) (by decide) rfl) fun a3 h3=> ?_))
  have hB2:=hB.set_ 8 (.slice (some ⟨w.heap.size,0,none⟩) 8 8)
  have hb2:=below_setCells [.slice (some ⟨w.heap.size,0,none⟩) 8 8] 8 _ hb1 (Nat.le_refl _)
  change Blk (w1.setCells w.heap.size 8 [.slice (some ⟨w.heap.size,0,none⟩) 8 8]) _ _ _ at hB2
  generalize w1.setCells w.heap.size 8 [.slice (some ⟨w.heap.size,0,none⟩) 8 8]=w2 at hB2 hb2 ⊢
  refine wp_seq (rg_wp (kn_r3 h3 rfl fun a4 h4=>wp_ret ?_))
  refine ret1 rfl h4 rfl ⟨rfl,⟨w.heap.size,8,fun _=>none,fun _=>none,fun _=>none,fun _=>none,by omega,by omega, ?_,fun i _=>rfl,(by intro X e Z h;cases X<;>cases h),⟨(fun _ h=>by cases h),(fun _ h=>by cases h)⟩,rfl,rfl,(fun _ h=>by cases h),fun b hb=>by rw[hb];exact hB2.lt⟩,hb2⟩
  exact { map := ⟨_, hB2, rfl, rfl, rfl, rfl, rfl⟩
          heads:=⟨_,_,hB2,by simp,fun i hi=>by
            match i,hi with
            | 0,_=>rfl
            | 1,_=>rfl
            | 2,_=>rfl
            | 3,_=>rfl
            | 4,_=>rfl
            | 5,_=>rfl
            | 6,_=>rfl
            | 7,_=>rfl,fun _=>rfl⟩
          ent:=fun _ h=>by cases h
          nd:=List.nodup_nil
          far:=fun _ h=>by cases h
          out:=⟨id,id,fun _ h=>by cases h⟩
          ok:=fun _ h=>by cases h
          dlt:=fun _ h=>h.elim}
end Go.Proofs.YtbjegfpfmnleeaaGreatDoor

namespace Go.Proofs.YtbjegfpfmnleeaaGreatDoor
open Go.RowKit
set_option maxRecDepth 100000
theorem equalH_fault{a b:Hd}(ho:oneB a b=true)(h:(equalH a b).2≠emp):(equalH b b).2≠emp:=by
 obtain⟨h1,h2⟩:=oneB_parts ho
 unfold equalH at h ⊢
 rw[h1,h2] at h
 split at h
 ·exact absurd rfl h
 ·rename_i h3
  rw[if_neg h3]
  split at h
  ·rename_i h4
   rw[if_pos h4]
   exact h
  ·rename_i h4
   rw[if_neg h4]
   split at h
   ·exact absurd rfl h
   ·exact absurd rfl h
theorem equalD_fault'{a b:Hd}{k l:Fo}(hF:k.len=l.len->(equalF k l).2≠emp->(equalF l l).2≠emp)(h:(equalD a k b l).2≠emp):(equalD b l b l).2≠emp:=by
 unfold equalD at h ⊢
 rw[oneB_refl]
 by_cases ho:oneB a b=false
 ·rw[if_pos ho] at h
  exact absurd rfl h
 ·rw[if_neg ho] at h
  rw[if_neg (by decide)]
  have ho':oneB a b=true:=by simpa using ho
  have hk:=(oneB_parts ho').1
  by_cases h8:a.kind=8
  ·rw[if_pos h8] at h
   rw[if_pos (hk ▸ h8)]
   by_cases hl:k.len≠l.len
   ·rw[if_pos hl] at h
    exact absurd rfl h
   ·rw[if_neg hl] at h
    rw[if_neg (by simp)]
    exact hF (Decidable.not_not.1 hl) h
  ·rw[if_neg h8] at h
   rw[if_neg (hk ▸ h8)]
   exact equalH_fault ho' h
theorem equalF_fault: ∀(f g:Fo),f.len=g.len->(equalF f g).2≠emp->(equalF g g).2≠emp
 | .nil,.nil,_,h=>h
 | .nil,.cons _ _ _,e,_=>by simp[Fo.len] at e
 | .cons _ _ _,.nil,e,_=>by simp[Fo.len] at e
 | .cons a k f,.cons b l g,e,h=>by
  rw[equalF_cons] at h ⊢
  by_cases h1:(equalD a k b l).1=true
  ·rw[if_pos h1] at h
   rw[eqD_self h1,if_pos rfl]
   exact equalF_fault f g (by simpa[Fo.len] using e) h
  ·rw[if_neg h1] at h
   have h2:(equalD b l b l).2≠emp:=equalD_fault' (fun e' h'=>equalF_fault k l e' h') h
   rw[if_neg (by rw[equalD_no h2];decide)]
   exact h2
theorem equalD_fault{a b:Dt}(h:(equalD a.h a.k b.h b.k).2≠emp):(equalD b.h b.k b.h b.k).2≠emp:=equalD_fault' (fun e h=>equalF_fault _ _ e h) h
theorem held_self(d:Dt):heldS d.h d.k=(equalD d.h d.k d.h d.k).2:=by
 rw[held_own]
 by_cases h8:d.h.kind=8<;>simp[equalD,oneB_refl,h8]
theorem no_fault{a d:Dt}(hr:rB d=true)(hk:kB d=true):(equalD a.h a.k d.h d.k).2=emp:=by
 apply Decidable.byContradiction
 intro h
 have h2:=equalD_fault h
 rw[<-held_self] at h2
 have h3:=key_held (h:=d.h) (k:=d.k) hr
 rw[show keyB d.h d.k=true from hk] at h3
 exact h2 (by simpa using h3.symm)
theorem neq_none(p:Addr)(w:World):(binOp .neq 161 (.pointer (some ⟨p.block,0,none⟩)) (.pointer none)).run Tryz.prog w=.ok (.bool true) w:=by kernel_rfl
theorem neq_nn(w:World):(binOp .neq 161 (.pointer none) (.pointer none)).run Tryz.prog w=.ok (.bool false) w:=by kernel_rfl
theorem eql_none(p:Addr)(w:World):(binOp .eql 161 (.pointer (some ⟨p.block,0,none⟩)) (.pointer none)).run Tryz.prog w=.ok (.bool false) w:=by kernel_rfl
theorem eql_nn(w:World):(binOp .eql 161 (.pointer none) (.pointer none)).run Tryz.prog w=.ok (.bool true) w:=by kernel_rfl
def FindR(R:List En)(d:Dt)(w:World)(e:Ending)(w':World):Prop:=Below w.heap.size w w'/\
 if kB d=true then e=.returned (.tuple #[.pointer (pO (fE R d)),.int .u64 (hV d),.nilIface]) else ∃v,e=.returned (.tuple #[.pointer none,.int .u64 0,v])/\FaultAt w w' v keyW (heldS d.h d.k)
theorem ret3{P:Program}{fn:Func}{R:Ending->World->Prop}{a:Act}{w:World}{n t u s:Nat}{l:List (Nat×Value)}{v x y:Value}(hr:fn.results=#[.tmp t,.tmp u,.tmp s])(hs:Sl n a l)(e:l.lookup t=some v)(e2:l.lookup u=some x)(e3:l.lookup s=some y)(h:R (.returned (.tuple #[v,x,y])) w):bodyPost P fn R .ret a w:=
 bodyPost_ret (v:=.tuple #[v,x,y]) (by
  have h1:=hs.look t e
  have h2:=hs.look u e2
  have h3:=hs.look s e3
  unfold slot at h1 h2 h3
  simp[results,hr] at h1 h2 h3 ⊢
  rw[h1,h2,h3]
  exact⟨rfl,rfl,rfl⟩) hs.defers h
theorem find_bk{R:List En}{n:Nat}{h:Int}{p:En->Bool}(hp: ∀e∈R,p e=true->bkB n h e=true):R.find? (bkB n h)=none->R.find? p=none:=fun hn=>by
 rw[List.find?_eq_none] at hn ⊢
 exact fun e he hpe=>hn e he (hp e he hpe)
set_option maxHeartbeats 2000000 in
theorem kfind_any{w:World}{m:Nat}{R:List En}{D O:Nat->Prop}(hM:MapAt w m R D O){d:Dt}{md:Dm}{S:Nat->Prop}(ho:d.ok)(hr:rB d=true)(hd:d.at w S md)(hown:OwnAt w):
    Calls Tryz.prog 96 #[.pointer (some ⟨m,0,none⟩),.agg (d.cs md)] w (FindR R d w):=by
  refine calls_ev (vs:=[.pointer (some ⟨m,0,none⟩),.agg (d.cs md)]) 69 Tryz.func96 kf_body (by kernel_rfl) (by simp) fun a0 h0=> ?_
  unfold kfBody
  refine wp_seq (rg_wp (kf_r0 h0 rfl fun a1 h1=> ?_))
  have hB1:=Blk.new w 53 (d.cs md)
  have hb1:=bl_alloc (Below.refl w.heap.size w) (.cells (d.cs md) 53)
  generalize w.alloc (.cells (d.cs md) 53)=w1 at hB1 hb1 ⊢
  refine wp_seq (wp_seq (rg_wp (kf_r1 h1 rfl (dat_whole hB1) ((vKey ho (hd.old hb1) (hown.old hb1)).mono fun e w' hh=>let⟨h1,v,h2,h3⟩:=hh;⟨v,h2,And.intro h1 h3⟩) fun a2 v2 w2 hx h2=> ?_)))
  obtain⟨hb2,hv⟩:=hx
  have hb02:=bl_trans hb1 hb2
  unfold KeyV at hv
  rw[if_pos (show rightB d.h d.k=true from hr)] at hv
  cases hk:kB d with
  | false=>
    have hk': ¬keyB d.h d.k=true:=by rw[show keyB d.h d.k=false from hk];decide
    rw[if_neg hk'] at hv
    obtain⟨g,rfl,hg⟩:=hv
    refine wp_seq (rg_wp (kf_r2e h2 rfl fun a3 h3=>wp_cond_true (h3.look 16 rfl) ?_))
    refine wp_seq (rg_wp (kf_r3 h3 rfl fun a4 h4=>wp_ret (then_ret ?_)))
    exact ret3 rfl h4 rfl rfl rfl ⟨hb02,by rw[hk,if_neg (by decide)];exact⟨_,rfl,g,rfl,hg.1,Nat.le_trans hb1.size hg.2⟩⟩
  | true=>
  rw[if_pos (show keyB d.h d.k=true from hk)] at hv
  subst hv
  have fin: ∀{a':Act} {w':World} {l'} {r:Option Addr},Sl 69 a' l'->l'.lookup 4=some (.pointer r)->l'.lookup 5=some (.int .u64 (hV d))->l'.lookup 6=some .nilIface->Below w.heap.size w w'->r=pO (fE R d)->
      bodyPost Tryz.prog Tryz.f96 (FindR R d w) .ret a' w':=fun h' e4 e5 e6 hb e=>by
    subst e
    exact ret3 rfl h' e4 e5 e6 ⟨hb,by rw[hk,if_pos rfl]⟩
  refine wp_seq (rg_wp (kf_r2n h2 rfl fun a3 h3=>wpo (h3.look 16 rfl) ?_))
  have hB2:=hB1.below hb2 hB1.lt
  refine wp_seq (rg_wp (kf_r4 (h:=hV d) h3 rfl (dat_whole hB2) ((vHash ho (hd.old hb02) (hown.old hb02)).mono fun e w' hh=>by
    obtain⟨q1,nn,v,q2,q3,q4⟩:=hh
    unfold KeyV at q3
    rw[if_pos (show rightB d.h d.k=true from hr),if_pos (show keyB d.h d.k=true from hk)] at q3
    rw[if_pos (by rw[show rightB d.h d.k=true from hr,show keyB d.h d.k=true from hk];rfl)] at q4
    exact⟨v,by rw[q2,q4];rfl,And.intro q3 q1⟩) fun a4 v4 w4 hx h4=> ?_))
  obtain⟨rfl,hb4⟩:=hx
  have hb04:=bl_trans hb02 hb4
  refine wp_seq (wp_seq (rg_wp (kf_r5n h4 rfl fun a5 h5=>wpo (h5.look 24 rfl) ?_)))
  obtain⟨hb,n,H,N,B,A,hn0,hn1,hR,hH,hLk,hKO,_⟩:=hM.old hb04
  obtain⟨cs,hBm,hz,c8,_⟩:=hR.map
  obtain⟨t,hs,hBh,hhz,hhs,_⟩:=hR.heads
  have hran:=hash_range d
  have hmod:(hV d) % (n:Int)=(((hV d).toNat % n:Nat):Int):=by
    rw[Int.natCast_emod,Int.toNat_of_nonneg hran.1]
  have hklt:(hV d).toNat % n<n:=Nat.mod_lt _ hn0
  refine wp_seq (wp_seq (rg_wp (kf_r7 h5 rfl rfl (one_load hBm Tryz.underlying167 rfl c8) (fun w=>conv_u n (by omega) w) (fun w=>rem_u hran.1 hran.2 (by omega) w) (fun w=>by rw[hmod];exact ix_u hklt w)
    (one_load hBh Tryz.underlying161 rfl (hhs _ hklt)) fun a6 mm h6=> ?_)))
  have hb06:Below w.heap.size w (w4.drewN mm):=below_drewN hb04 mm
  have hB4:Blk (w4.drewN mm) w.heap.size 53 (d.cs md):=(hB2.below hb4 hB2.lt).drewN mm
  have hR4:Raw (w4.drewN mm) m hb n (pO R.getLast?) (pO R.head?) (R.length:Int) H N B A R D:=hR.old (below_drewN (Below.refl _ _) mm)
  rw[hH _ hklt] at h6
  generalize w4.drewN mm=w6 at hb06 hB4 hR4 ⊢
  refine wp_block ?_
  refine wp_loop (fun a' wr=> ∃(X Z:List En),R=X++Z/\fE R d=fE Z d/\Sl 69 a' [(10,.pointer (pO (Z.find? (bkB n (hV d))))),(8,.int .u64 (hV d)),(3,.pointer (some ⟨w.heap.size,0,none⟩)),(0,.pointer (some ⟨m,0,none⟩))]/\Below w6.heap.size w6 wr)
    (fun a' _=>match slot a' 10 with
      | .pointer (some p)=>(R.map (·.g)).length-(R.map (·.g)).idxOf p.block
      | _=>0)
    ⟨[],R,rfl,rfl,h6.to ⟨rfl,rfl,rfl,rfl,trivial⟩,Below.refl _ _⟩ ?_
  rintro a7 w7 ⟨X,Z,hXZ,hfE,h7,hb7⟩
  have hb07:=bl_trans hb06 hb7
  have hR7:=hR4.old hb7
  unfold kfL0
  cases hf:Z.find? (bkB n (hV d)) with
  | none=>
    rw[hf] at h7
    refine wp_seq (wp_seq (rg_wp (kf_r8n h7 rfl (fun w=>neq_nn w) fun a8 h8=>wpx (h8.look 41 rfl) ?_)))
    refine then_exit' (in_block2 ?_)
    show Code.wp _ (Code.seq (r_kf 14) .ret) _ a8 w7
    refine wp_seq (rg_wp (kf_r14 h8 rfl fun a9 h9=>wp_ret ?_))
    refine fin h9 rfl rfl rfl hb07 ?_
    rw[hfE]
    have:fE Z d=none:=find_bk (n:=n) (h:=hV d) (fun e _ he=>by
      simp only[Bool.and_eq_true,beq_iff_eq] at he
      simp[bkB,he.1]) hf
    rw[this]
    rfl
  | some e=>
    obtain⟨hbk,Z1,Z2,hZ,hno⟩:=List.find?_eq_some_iff_append.1 hf
    rw[hf] at h7
    have hR7e:R=(X++Z1)++e::Z2:=by rw[hXZ,hZ,List.append_assoc]
    have heR:e∈R:=by rw[hR7e];simp
    obtain⟨ma,mb,hBe,hka,hva⟩:=hR7.ent e heR
    have hpe:pO (some e)=some ⟨e.g,0,none⟩:=rfl
    rw[hpe] at h7
    have hix:(R.map (·.g)).idxOf e.g=(X++Z1).length:=by
      have hnd:=hR7.nd
      rw[hR7e,List.map_append,List.map_cons] at hnd ⊢
      rw[List.idxOf_append,if_neg]
      · simp
      · intro hm
        have:=(List.nodup_append.1 hnd).2.2
        exact this _ hm _ List.mem_cons_self rfl
    have hmu:(match slot a7 10 with
      | .pointer (some p)=>(R.map (·.g)).length-(R.map (·.g)).idxOf p.block
      | _=>0)=R.length-(X++Z1).length:=by
      rw[h7.look 10 rfl]
      show(R.map (·.g)).length-(R.map (·.g)).idxOf e.g=_
      rw[hix,List.length_map]
    rw[hmu]
    refine wp_seq (wp_seq (rg_wp (kf_r8e h7 rfl (fun w=>neq_none ⟨e.g,0,none⟩ w) fun a8 h8=>wpn (h8.look 41 rfl) ?_)))
    have next: ∀(a':Act) (w':World) l',Sl 69 a' l'->AllL l' [(10,.pointer (some ⟨e.g,0,none⟩)),(8,.int .u64 (hV d)),(3,.pointer (some ⟨w.heap.size,0,none⟩)),(0,.pointer (some ⟨m,0,none⟩))]->Below w6.heap.size w6 w'->(e.hash==hV d&&eqO e.key d)=false->
        ∀ Q : Exit → Act → World → Prop, (∀ a'', ((∃ (X Z : List En), R = X ++ Z ∧ fE R d = fE Z d ∧ Sl 69 a'' [(10, .pointer (pO (Z.find? (bkB n (hV d))))), (8, .int .u64 (hV d)), (3, .pointer (some ⟨w.heap.size, 0, none⟩)), (0, .pointer (some ⟨m, 0, none⟩))] ∧ Below w6.heap.size w6 w') ∧
          (match slot a'' 10 with
            | .pointer (some p)=>(R.map (·.g)).length-(R.map (·.g)).idxOf p.block
            | _=>0)<R.length-(X++Z1).length)->Q .normal a'' w')->(r_kf 9).wp Tryz.prog Q a' w':=fun a' w' l' h' hl hb' hne Q hQ=>by
      have hR':=hR4.old hb'
      obtain⟨ma,mb,hBe,_⟩:=hR'.ent e heR
      have hN:=(hLk (X++Z1) e Z2 hR7e).1
      refine wpl (rg_wp (kf_r9 (h'.to hl) rfl (one_load hBe Tryz.underlying161 rfl (v:=.pointer (N e.g)) rfl) fun a9 h9=>hQ a9 ⟨⟨(X++Z1)++[e],Z2,by rw[hR7e];simp, ?_, ?_,hb'⟩, ?_⟩))
      · rw[hfE,hZ]
        unfold fE
        rw[List.find?_append]
        have:Z1.find? (fun e=>e.hash==hV d&&eqO e.key d)=none:=by
          rw[List.find?_eq_none]
          intro x hx he
          have:=hno x hx
          simp only[Bool.and_eq_true,beq_iff_eq] at he
          simp[bkB,he.1] at this
        rw[this,Option.none_or,List.find?_cons,hne]
      · have hbe:bkB n e.hash=bkB n (hV d):=by
          funext x
          unfold bkB at hbk ⊢
          rw[beq_iff_eq] at hbk
          rw[hbk]
        rw[hN,hbe] at h9
        exact h9.to ⟨rfl,rfl,rfl,rfl,trivial⟩
      · rw[h9.look 10 rfl,hN]
        have hlen:R.length=(X++Z1).length+1+Z2.length:=by rw[hR7e];simp;omega
        cases hf2:Z2.find? (bkB n e.hash) with
        | none=>show 0<_;omega
        | some e2=>
          obtain⟨_,Y1,Y2,hY,_⟩:=List.find?_eq_some_iff_append.1 hf2
          show(R.map (·.g)).length-(R.map (·.g)).idxOf e2.g<_
          have hR2:R=((X++Z1)++e::Y1)++e2::Y2:=by rw[hR7e,hY];simp
          have hix2:(R.map (·.g)).idxOf e2.g=((X++Z1)++e::Y1).length:=by
            have hnd:=hR'.nd
            rw[hR2,List.map_append,List.map_cons] at hnd ⊢
            rw[List.idxOf_append,if_neg]
            · simp
            · intro hm
              have:=(List.nodup_append.1 hnd).2.2
              exact this _ hm _ List.mem_cons_self rfl
          rw[hix2,List.length_map]
          simp only[List.length_append,List.length_cons] at hlen ⊢
          omega
    refine wp_seq (wp_block ?_)
    have hhe:=hR7.ok e heR
    by_cases hhash:e.hash=hV d
    · refine wp_seq (rg_wp (kf_r10 h8 rfl rfl (one_load hBe Tryz.underlying49 rfl (v:=.int .u64 e.hash) rfl) (decide_eq_true hhash) fun a9 h9=>wp_cond_true (h9.look 51 rfl) ?_))
      have hnf:=no_fault (a:=e.key) hr hk
      have hB7:=hB4.below hb7 hB4.lt
      refine wp_seq (rg_wp (kf_r11 (C:=fun u=>Below w7.heap.size w7 u) (b11:=eqO e.key d) (er12:=.nilIface) h9 rfl rfl (fun u hu=>ent_key (hBe.below hu hBe.lt)) (fun u hu=>dat_whole (hB7.below hu hB7.lt))
        (fun u hu=>(vEqual hhe.1 ho (hka.old hu) ((hd.old hb07).old hu) ((hown.old hb07).old hu)).mono fun e' w' hh=>by
          obtain⟨q1,b,v,q2,q3⟩:=hh
          have hre:=(hKO.right e heR).1
          rw[if_pos (by rw[show rightB e.key.h e.key.k=true from hre,show rightB d.h d.k=true from hr];rfl),if_pos hnf,if_pos hnf] at q3
          obtain⟨rfl,rfl⟩:=q3
          exact⟨q2,bl_trans hu q1⟩) (below_drewN (Below.refl _ _) 1) fun a10 w10 hb10 h10=> ?_))
      have hb6a:=bl_trans hb7 hb10
      have hb0a:=bl_trans hb07 hb10
      cases heq:eqO e.key d with
      | true=>
        rw[heq] at h10
        refine wp_seq (rg_wp (kf_r12n_t h10 rfl rfl fun a11 h11=>wp_cond_true (h11.look 65 rfl) ?_))
        refine wp_seq (rg_wp (kf_r13 h11 rfl rfl fun a12 h12=>wp_ret ?_))
        repeat (first | with_reducible refine then_ret ?_ | with_reducible refine block_ret ?_)
        refine fin h12 rfl rfl rfl hb0a ?_
        rw[hfE,hZ]
        unfold fE
        rw[List.find?_append]
        have:Z1.find? (fun e=>e.hash==hV d&&eqO e.key d)=none:=by
          rw[List.find?_eq_none]
          intro x hx he
          have:=hno x hx
          simp only[Bool.and_eq_true,beq_iff_eq] at he
          simp[bkB,he.1] at this
        rw[this,Option.none_or,List.find?_cons,show(e.hash==hV d&&eqO e.key d)=true by rw[heq,hhash];simp]
        rfl
      | false=>
        rw[heq] at h10
        refine wp_seq (rg_wp (kf_r12n_f h10 rfl fun a11 h11=>wpc_off (h11.look 65 rfl) (block_norm ?_)))
        show Code.wp _ (r_kf 9) _ a11 w10
        exact next a11 w10 _ h11 ⟨rfl,rfl,rfl,rfl,trivial⟩ hb6a (by rw[heq];simp) _ (fun _ h=>h)
    · refine wp_seq (rg_wp (kf_r10 h8 rfl rfl (one_load hBe Tryz.underlying49 rfl (v:=.int .u64 e.hash) rfl) (decide_eq_false hhash) fun a9 h9=>wpc_off (h9.look 51 rfl) (block_norm ?_)))
      show Code.wp _ (r_kf 9) _ a9 w7
      exact next a9 w7 _ h9 ⟨rfl,rfl,rfl,rfl,trivial⟩ hb7 (by simp[hhash]) _ (fun _ h=>h)
end Go.Proofs.YtbjegfpfmnleeaaGreatDoor

namespace Go.Proofs.YtbjegfpfmnleeaaGreatDoor
open Go.RowKit
set_option maxRecDepth 100000
structure Two (w w':World) (g g':Nat):Prop where
 size:w'.heap.size=w.heap.size
 os:w'.os=w.os
 tape:w'.tape=w.tape
 output:w'.output=w.output
 block: ∀b,b≠g->b≠g'->w'.heap[b]? =w.heap[b]?
theorem setCells_keep(g:Nat): ∀(vs:List Value) (o:Nat) (w:World),(w.setCells g o vs).os=w.os/\(w.setCells g o vs).tape=w.tape/\(w.setCells g o vs).output=w.output
 | [],_,_=>⟨rfl,rfl,rfl⟩
 | v::r,o,w=>by
  obtain⟨h1,h2,h3⟩:=setCells_keep g r (o+1) (w.setCell ⟨g,o,none⟩ v)
  exact⟨h1,h2,h3⟩
theorem Two.mk1(w:World)(g g' o:Nat)(vs:List Value):Two w (w.setCells g o vs) g g':=
 ⟨setCells_size' g vs o w,(setCells_keep g vs o w).1,(setCells_keep g vs o w).2.1,(setCells_keep g vs o w).2.2,fun b hb _=>setCells_other vs o w hb⟩
theorem Two.then{w w1:World}{g g':Nat}(h:Two w w1 g g')(o:Nat)(vs:List Value):Two w (w1.setCells g' o vs) g g':=
 ⟨(setCells_size' g' vs o w1).trans h.size,((setCells_keep g' vs o w1).1).trans h.os,((setCells_keep g' vs o w1).2.1).trans h.tape,((setCells_keep g' vs o w1).2.2).trans h.output,fun b hb hb'=>(setCells_other vs o w1 hb').trans (h.block b hb hb')⟩
theorem Two.drew{w w1:World}{g g':Nat}{n:Nat}(h:Two (w.drewN n) w1 g g'):Two w w1 g g':=⟨h.size,h.os,h.tape,h.output,h.block⟩
theorem Two.below{w w':World}{g g' B:Nat}(h:Two w w' g g')(hg:B<=g)(hg':B<=g')(hB:B<=w.heap.size):Below B w w':=
 ⟨h.os,h.tape,h.output,by rw[h.size];exact Nat.le_refl _,fun k hk=>h.block k (by omega) (by omega)⟩
set_option maxHeartbeats 1000000 in
theorem kchain_any{w:World}{m hb n:Nat}{fr tx:Option Addr}{many:Int}{H N B A:Nat->Option Addr}{R:List En}{D:Nat->Prop}(hR:Raw w m hb n fr tx many H N B A R D)(hn0:0<n)(hn1:n<=1099511627776){e:En}(he:e∈R):
  Calls Tryz.prog 100 #[.pointer (some ⟨m,0,none⟩),.pointer (some ⟨e.g,0,none⟩)] w fun r w'=>r=.returned (.tuple #[])/\
   (Raw w' m hb n fr tx many (upd H (e.hash.toNat % n) (some e.p)) (upd N e.g (H (e.hash.toNat % n))) B A R D/\Two w w' e.g hb):=by
 obtain⟨cs,hBm,hz,c8,_⟩:=hR.map
 obtain⟨t,hs,hBh,hhz,hhs,_⟩:=hR.heads
 obtain⟨ma,mb,hBe,hka,hva⟩:=hR.ent e he
 obtain⟨ok1,ok2,ok3,ok4⟩:=hR.ok e he
 have hmod:e.hash % (n:Int)=((e.hash.toNat % n:Nat):Int):=by rw[Int.natCast_emod,Int.toNat_of_nonneg ok3]
 have hklt:e.hash.toNat % n<n:=Nat.mod_lt _ hn0
 refine calls_ev (vs:=[.pointer (some ⟨m,0,none⟩),.pointer (some ⟨e.g,0,none⟩)]) 33 Tryz.func100 kh_body (by kernel_rfl) (by simp) fun a0 h0=> ?_
 unfold khBody
 refine wp_seq (rg_wp (kh_r0 h0 rfl rfl (one_load hBe Tryz.underlying49 rfl (v:=.int .u64 e.hash) rfl) (one_load hBm Tryz.underlying167 rfl c8) (fun w=>conv_u n (by omega) w) (fun w=>rem_u ok3 ok4 (by omega) w) fun a1 mm h1=> ?_))
 rw[hmod] at h1
 have hR1:Raw (w.drewN mm) m hb n fr tx many H N B A R D:=hR.old (below_drewN (Below.refl _ _) mm)
 obtain⟨cs1,hBm1,_,c81,_⟩:=hR1.map
 obtain⟨t1,hs1,hBh1,_,hhs1,_⟩:=hR1.heads
 obtain⟨_,_,hBe1,_,_⟩:=hR1.ent e he
 have hT:Two w (w.drewN mm) e.g hb:=⟨rfl,rfl,rfl,rfl,fun _ _ _=>rfl⟩
 have hR2:=(hR1.old (below_drewN (Below.refl _ _) 1)).setN he (H (e.hash.toNat % n))
 have hR3:=hR2.setH (e.hash.toNat % n) hklt (some ⟨e.g,0,none⟩)
 have hT3:Two w ((((w.drewN mm).drewN 1).setCells e.g 23 [.pointer (H (e.hash.toNat % n))]).setCells hb (e.hash.toNat % n) [.pointer (some ⟨e.g,0,none⟩)]) e.g hb:=
  ((Two.mk1 ((w.drewN mm).drewN 1) e.g hb 23 _).then _ _).drew.drew
 obtain⟨cs2,hBm2,_,c82,_⟩:=hR2.map
 obtain⟨t2,hs2,hBh2,hz2,hhs2,_⟩:=hR2.heads
 refine wpl (rg_wp (kh_r1 (C:=fun u=>Lds Tryz.prog 167 (.pointer (some ⟨m,8,none⟩)) (.slice (some ⟨hb,0,none⟩) n n) u/\Lds Tryz.prog 161 (.pointer (some ⟨hb,e.hash.toNat % n,none⟩)) (.pointer (H (e.hash.toNat % n))) u)
  h1 rfl rfl rfl (fun u hu=>hu.1) (fun w=>ix_u hklt w) (fun u hu=>hu.2) ⟨one_load (hBm1.drewN 1) Tryz.underlying167 rfl c81,one_load (hBh1.drewN 1) Tryz.underlying161 rfl (hhs1 _ hklt)⟩
  (one_store (hBe1.drewN 1) ptrInf (by show 23<27;omega) rfl) ⟨one_load hBm2 Tryz.underlying167 rfl c82,one_load hBh2 Tryz.underlying161 rfl (hhs2 _ hklt)⟩
  (one_store hBh2 ptrInf (by omega) rfl) fun a2 h2=> ?_))
 exact bodyPost_end (results_none rfl _ _ _) h2.defers ⟨rfl,hR3,hT3⟩
end Go.Proofs.YtbjegfpfmnleeaaGreatDoor
