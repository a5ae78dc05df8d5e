/-
   Written by an AI agent.
-/
import Derived.Sort.OwnSortedInts
import Derived.Test.YtbjegfpfmnleeaaGreatDoorPk23
namespace Go.Proofs.YtbjegfpfmnleeaaGreatDoor
abbrev DD:=List (Int×Nat)
def nAt(D:DD)(j:Nat):Int:=(D[j]?.map (·.1)).getD 0
def qAt(D:DD)(j:Nat):Nat:=(D[j]?.map (·.2)).getD 0
def cm(K:List Int)(D:DD)(n:Int)(q:Nat):DD:=if n∈K/\n∉D.map (·.1) then D++[(n,q)] else D
def cmR(K:List Int)(D:DD)(n:Int):DD:=cm K D n D.length
def Ba(K:List Int)(L:Int->List Int)(i:Nat)(D:DD):DD:=(L (nAt D i)).foldl (fun D v=>cm K D v i) D
def goB(K:List Int)(L:Int->List Int):Nat->Nat->DD->DD
 | 0,_,D=>D
 | f+1,i,D=>if i<D.length then goB K L f (i+1) (Ba K L i D) else D
def V0(K R:List Int):DD:=R.foldl (fun D n=>cmR K D n) []
def Ch1(K:List Int)(L:Int->List Int)(R:List Int):DD:=goB K L (K.length+1) 0 (V0 K R)
inductive Pth (K R:List Int) (L:Int->List Int):List Int->Int->Prop
 | root {r:Int}:r∈R->r∈K->Pth K R L [r] r
 | step {p:List Int} {u v:Int}:Pth K R L p u->v∈L u->v∈K->Pth K R L (p++[v]) v
section
variable {K R:List Int} {L:Int->List Int} {D:DD} {i j:Nat} {n:Int} {q:Nat}
theorem J4(h:j<D.length)(x:Int×Nat):nAt (D++[x]) j=nAt D j:=by
 unfold nAt;rw[List.getElem?_append_left h]
theorem R5(h:j<D.length)(x:Int×Nat):qAt (D++[x]) j=qAt D j:=by
 unfold qAt;rw[List.getElem?_append_left h]
theorem Cf(x:Int×Nat):nAt (D++[x]) D.length=x.1:=by simp[nAt]
theorem Ly(x:Int×Nat):qAt (D++[x]) D.length=x.2:=by simp[qAt]
theorem mem_nAt:n∈D.map (·.1)↔∃j,j<D.length/\nAt D j=n:=by
 constructor
 ·intro h
  obtain⟨x,hx,rfl⟩:=List.mem_map.1 h
  obtain⟨j,hj,he⟩:=List.mem_iff_getElem.1 hx
  exact⟨j,hj,by unfold nAt;rw[List.getElem?_eq_getElem hj,he];rfl⟩
 ·rintro⟨j,hj,rfl⟩
  refine List.mem_map.2 ⟨D[j],List.getElem_mem hj, ?_⟩
  unfold nAt
  rw[List.getElem?_eq_getElem hj]
  rfl
structure Bf (K R:List Int) (L:Int->List Int) (i e:Nat) (D:DD):Prop where
 inK: ∀j,j<D.length->nAt D j∈K
 nd: ∀j j',j<D.length->j'<D.length->nAt D j=nAt D j'->j=j'
 root: ∀j,j<D.length->qAt D j=j->nAt D j∈R
 roots: ∀r,r∈R->r∈K->∃j,j<D.length/\nAt D j=r/\qAt D j=j
 par: ∀j,j<D.length->qAt D j≠j->qAt D j<j/\qAt D j<e/\nAt D j∈L (nAt D (qAt D j))
 rise: ∀j j',j<j'->j'<D.length->qAt D j'=j'->qAt D j=j/\nAt D j<nAt D j'
 mono: ∀j j',j<j'->j'<D.length->qAt D j≠j->qAt D j<=qAt D j'/\(qAt D j=qAt D j'->nAt D j<nAt D j')
 done: ∀p,p<i->p<D.length->∀v,v∈L (nAt D p)->v∈K->∃j,j<D.length/\nAt D j=v/\(qAt D j=j\/qAt D j<=p)
structure Bs (K R:List Int) (D:DD):Prop where
 inK: ∀j,j<D.length->nAt D j∈K
 nd: ∀j j',j<D.length->j'<D.length->nAt D j=nAt D j'->j=j'
 root: ∀j,j<D.length->qAt D j=j/\nAt D j∈R
 roots: ∀r,r∈R->r∈K->∃j,j<D.length/\nAt D j=r
 rise: ∀j j',j<j'->j'<D.length->nAt D j<nAt D j'
theorem Bg9(h:Bs K R D)(n:Int)(hn: ∀r,r∈R->r<=n):Bs K (R++[n]) (cmR K D n):=by
 unfold cmR cm
 split
 ·rename_i c
  obtain⟨c1,c2⟩:=c
  have c3: ∀j,j<D.length->nAt D j≠n:=fun j hj e=>c2 (mem_nAt.2 ⟨j,hj,e⟩)
  have hl:(D++[(n,D.length)]).length=D.length+1:=by simp
  have key: ∀j,j<D.length+1->(j<D.length/\nAt (D++[(n,D.length)]) j=nAt D j/\qAt (D++[(n,D.length)]) j=qAt D j)\/(j=D.length/\nAt (D++[(n,D.length)]) j=n/\qAt (D++[(n,D.length)]) j=D.length):=fun j hj=>by
   rcases Nat.lt_or_ge j D.length with h1 | h1
   ·exact .inl ⟨h1,J4 h1 _,R5 h1 _⟩
   ·obtain rfl:j=D.length:=by omega
    exact .inr ⟨rfl,Cf _,Ly _⟩
  refine⟨fun j hj=> ?_,fun j j' hj hj' e=> ?_,fun j hj=> ?_,fun r hr hk=> ?_,fun j j' hjj hj'=> ?_⟩
  ·rcases key j Zo with⟨a,b,c⟩ | ⟨a,b,c⟩
   ·rw[b];exact h.inK j a
   ·rw[b];exact c1
  ·rcases key j Zo with⟨a,b,c⟩ | ⟨a,b,c⟩<;>rcases key j' Zo with⟨a',b',c'⟩ | ⟨a',b',c'⟩
   ·exact h.nd j j' a a' (by rw[<-b,<-b',e])
   ·exact absurd (by rw[<-b,e,b']) (c3 j a)
   ·exact absurd (by rw[<-b',<-e,b]) (c3 j' a')
   ·omega
  ·rcases key j Zo with⟨a,b,c⟩ | ⟨a,b,c⟩
   ·rw[b,c];exact⟨(h.root j a).1,List.mem_append_left _ (h.root j a).2⟩
   ·rw[b,c];exact⟨a.symm,by simp⟩
  ·rcases List.mem_append.1 hr with h1 | h1
   ·obtain⟨j,hj,e⟩:=h.roots r h1 hk
    exact⟨j,Zo,by rw[J4 hj];exact e⟩
   ·have:r=n:=by simpa using h1
    subst this
    exact⟨D.length,Zo,Cf _⟩
  ·rcases key j' Zo with⟨a',b',c'⟩ | ⟨a',b',c'⟩
   ·rw[J4 Zo,b'];exact h.rise j j' hjj a'
   ·have hj:j<D.length:=by omega
    rw[J4 hj,b']
    have h1:=hn _ (h.root j hj).2
    have h2:=c3 j hj
    omega
 ·rename_i c
  refine⟨h.inK,h.nd,fun j hj=>⟨(h.root j hj).1,List.mem_append_left _ (h.root j hj).2⟩,fun r hr hk=> ?_,h.rise⟩
  rcases List.mem_append.1 hr with h1 | h1
  ·exact h.roots r h1 hk
  ·have:r=n:=by simpa using h1
   subst this
   have:r∈D.map (·.1):=Classical.byContradiction fun hc=>c ⟨hk,hc⟩
   exact mem_nAt.1 this
theorem Ta: ∀(T S:List Int) (D:DD),Bs K S D->(S++T).Pairwise (· <= ·)->Bs K (S++T) (T.foldl (fun D n=>cmR K D n) D)
 | [],S,D,h,_=>by simpa using h
 | n::T,S,D,h,hp=>by
  have h1: ∀r,r∈S->r<=n:=fun r hr=>(List.pairwise_append.1 hp).2.2 r hr n (by simp)
  have h2:=Ta T (S++[n]) _ (Bg9 h n h1) (by simpa using hp)
  simpa using h2
theorem Ae6(hp:R.Pairwise (· <= ·)):Bs K R (V0 K R):=by
 have h:=Ta (K:=K) R [] [] ⟨fun j hj=>absurd hj (Nat.not_lt_zero _),fun j _ hj=>absurd hj (Nat.not_lt_zero _),fun j hj=>absurd hj (Nat.not_lt_zero _),(fun r hr=>absurd hr List.not_mem_nil),fun _ j hj h=>absurd h (Nat.not_lt_zero _)⟩ (by simpa using hp)
 simpa[V0] using h
theorem Ae7(hp:R.Pairwise (· <= ·)):Bf K R L 0 0 (V0 K R):=by
 have h:=Ae6 (K:=K) hp
 refine⟨h.inK,h.nd,fun j hj _=>(h.root j hj).2,fun r hr hk=> ?_,fun j hj hq=>absurd (h.root j hj).1 hq,fun j j' hjj hj' _=>⟨(h.root j Zo).1,h.rise j j' hjj hj'⟩,fun j j' hjj hj' hq=>absurd (h.root j Zo).1 hq,fun p hp=>absurd hp (Nat.not_lt_zero _)⟩
 obtain⟨j,hj,e⟩:=h.roots r hr hk
 exact⟨j,hj,e,(h.root j hj).1⟩
theorem Dt7(h:Bf K R L i (i+1) D)(hi:i<D.length)(W:List Int)(hW: ∀j,j<D.length->qAt D j≠j->qAt D j=i->nAt D j∈W)(hv:n∈L (nAt D i))(hlt: ∀u,u∈W->u<n):
  Bf K R L i (i+1) (cm K D n i)/\(∀j,j<(cm K D n i).length->qAt (cm K D n i) j≠j->qAt (cm K D n i) j=i->nAt (cm K D n i) j∈W++[n])/\D.length<=(cm K D n i).length/\(∀j,j<D.length->nAt (cm K D n i) j=nAt D j/\qAt (cm K D n i) j=qAt D j)/\
   (n∈K->∃j,j<(cm K D n i).length/\nAt (cm K D n i) j=n/\(qAt (cm K D n i) j=j\/qAt (cm K D n i) j<=i)):=by
 unfold cm
 split
 ·rename_i c
  obtain⟨c1,c2⟩:=c
  have c3: ∀j,j<D.length->nAt D j≠n:=fun j hj e=>c2 (mem_nAt.2 ⟨j,hj,e⟩)
  have hl:(D++[(n,i)]).length=D.length+1:=by simp
  have key: ∀j,j<D.length+1->(j<D.length/\nAt (D++[(n,i)]) j=nAt D j/\qAt (D++[(n,i)]) j=qAt D j)\/(j=D.length/\nAt (D++[(n,i)]) j=n/\qAt (D++[(n,i)]) j=i):=fun j hj=>by
   rcases Nat.lt_or_ge j D.length with h1 | h1
   ·exact .inl ⟨h1,J4 h1 _,R5 h1 _⟩
   ·obtain rfl:j=D.length:=by omega
    exact .inr ⟨rfl,Cf _,Ly _⟩
  refine⟨⟨fun j hj=> ?_,fun j j' hj hj' e=> ?_,fun j hj hq=> ?_,fun r hr hk=> ?_,fun j hj hq=> ?_,fun j j' hjj hj' hq=> ?_,fun j j' hjj hj' hq=> ?_,fun p hp hpl v hv' hk=> ?_⟩,fun j hj hq hqi=> ?_,Zo,fun j hj=>⟨J4 hj _,R5 hj _⟩,fun _=>⟨D.length,Zo,Cf _,.inr (by rw[Ly];exact Nat.le_refl _)⟩⟩
  ·rcases key j Zo with⟨a,b,c⟩ | ⟨a,b,c⟩
   ·rw[b];exact h.inK j a
   ·rw[b];exact c1
  ·rcases key j Zo with⟨a,b,c⟩ | ⟨a,b,c⟩<;>rcases key j' Zo with⟨a',b',c'⟩ | ⟨a',b',c'⟩
   ·exact h.nd j j' a a' (by rw[<-b,<-b',e])
   ·exact absurd (by rw[<-b,e,b']) (c3 j a)
   ·exact absurd (by rw[<-b',<-e,b]) (c3 j' a')
   ·omega
  ·rcases key j Zo with⟨a,b,c⟩ | ⟨a,b,c⟩
   ·rw[b];exact h.root j a (by rw[<-c];exact hq)
   ·omega
  ·obtain⟨j,hj,e1,e2⟩:=h.roots r hr hk
   exact⟨j,Zo,by rw[J4 hj];exact e1,by rw[R5 hj];exact e2⟩
  ·rcases key j Zo with⟨a,b,c⟩ | ⟨a,b,c⟩
   ·obtain⟨p1,p2,p3⟩:=h.par j a (by rw[<-c];exact hq)
    rw[b,c,J4 Zo]
    exact⟨p1,p2,p3⟩
   ·rw[b,c,J4 hi]
    exact⟨Zo,Zo,hv⟩
  ·rcases key j' Zo with⟨a',b',c'⟩ | ⟨a',b',c'⟩
   ·rw[R5 Zo,J4 Zo,b'];exact h.rise j j' hjj a' (by rw[<-c'];exact hq)
   ·omega
  ·have hj:j<D.length:=by omega
   rw[R5 hj] at hq
   rw[R5 hj,J4 hj]
   rcases key j' Zo with⟨a',b',c'⟩ | ⟨a',b',c'⟩
   ·rw[b',c'];exact h.mono j j' hjj a' hq
   ·rw[b',c']
    obtain⟨p1,p2,p3⟩:=h.par j hj hq
    exact⟨Zo,fun e=>hlt _ (hW j hj hq e)⟩
  ·have hp':p<D.length:=by omega
   rw[J4 hp'] at hv'
   obtain⟨j,hj,e1,e2⟩:=h.done p hp hp' v hv' hk
   exact⟨j,Zo,by rw[J4 hj];exact e1,by rw[R5 hj];exact e2⟩
  ·rcases key j Zo with⟨a,b,c⟩ | ⟨a,b,c⟩
   ·rw[b]
    exact List.mem_append_left _ (hW j a (by rw[<-c];exact hq) (by rw[<-c];exact hqi))
   ·rw[b];simp
 ·rename_i c
  refine⟨h,fun j hj hq hqi=>List.mem_append_left _ (hW j hj hq hqi),Nat.le_refl _,fun _ _=>⟨rfl,rfl⟩,fun hk=> ?_⟩
  have:n∈D.map (·.1):=Classical.byContradiction fun hc=>c ⟨hk,hc⟩
  obtain⟨j,hj,e⟩:=mem_nAt.1 this
  refine⟨j,hj,e, ?_⟩
  by_cases hq:qAt D j=j
  ·exact .inl hq
  ·have:=(h.par j hj hq).2.1
   exact .inr Zo
theorem Tb(X:List Int)(hX:X.Pairwise (· < ·))(i:Nat): ∀(T W:List Int) (D:DD),W++T=X->i<D.length->L (nAt D i)=X->Bf K R L i (i+1) D->(∀j,j<D.length->qAt D j≠j->qAt D j=i->nAt D j∈W)->
  (∀u,u∈W->u∈K->∃j,j<D.length/\nAt D j=u/\(qAt D j=j\/qAt D j<=i))->
  Bf K R L (i+1) (i+1) (T.foldl (fun D v=>cm K D v i) D)/\D.length<=(T.foldl (fun D v=>cm K D v i) D).length/\∀j,j<D.length->nAt (T.foldl (fun D v=>cm K D v i) D) j=nAt D j
 | [],W,D,hw,hi,hL,h,hW,hd=>by
  have e:W=X:=by simpa using hw
  subst e
  refine⟨⟨h.inK,h.nd,h.root,h.roots,h.par,h.rise,h.mono,fun p hp hpl v hv hk=> ?_⟩,Nat.le_refl _,fun _ _=>rfl⟩
  rcases Nat.lt_or_ge p i with h1 | h1
  ·exact h.done p h1 hpl v hv hk
  ·obtain rfl:p=i:=by simp only[List.foldl_nil] at hpl;omega
   exact hd v (by rw[<-hL];exact hv) hk
 | v::T,W,D,hw,hi,hL,h,hW,hd=>by
  have hmem:v∈L (nAt D i):=by rw[hL,<-hw];simp
  have hlt: ∀u,u∈W->u<v:=fun u hu=>by
   rw[<-hw] at hX
   exact(List.pairwise_append.1 hX).2.2 u hu v (by simp)
  obtain⟨b1,b2,b3,b4,b5⟩:=Dt7 (n:=v) h hi W hW hmem hlt
  have h1:=Tb X hX i T (W++[v]) (cm K D v i) (by simpa using hw) Zo (by rw[(b4 i hi).1];exact hL) b1 b2 (fun u hu hk=>by
   rcases List.mem_append.1 hu with hu | hu
   ·obtain⟨j,hj,e1,e2⟩:=hd u hu hk
    exact⟨j,Zo,by rw[(b4 j hj).1];exact e1,by rw[(b4 j hj).2];exact e2⟩
   ·have:u=v:=by simpa using hu
    subst this
    exact b5 hk)
  simp only[List.foldl_cons]
  exact⟨h1.1,Zo,fun j hj=>(h1.2.2 j Zo).trans (b4 j hj).1⟩
theorem Bh0(hL: ∀n,(L n).Pairwise (· < ·))(h:Bf K R L i i D)(hi:i<D.length):Bf K R L (i+1) (i+1) (Ba K L i D)/\D.length<=(Ba K L i D).length:=
 have h1:=Tb (L (nAt D i)) (hL _) i (L (nAt D i)) [] D rfl hi rfl
  ⟨h.inK,h.nd,h.root,h.roots,fun j hj hq=>⟨(h.par j hj hq).1,by have:=(h.par j hj hq).2.1;omega,(h.par j hj hq).2.2⟩,h.rise,h.mono,h.done⟩
  (fun j hj hq e=>by have:=(h.par j hj hq).2.1;omega) (fun u hu=>by cases hu)
 ⟨h1.1,h1.2.1⟩
theorem N7: ∀(l K:List Int),l.Nodup->(∀x,x∈l->x∈K)->l.length<=K.length
 | [],_,_,_=>Nat.zero_le _
 | x::l,K,hn,hs=>by
  obtain⟨h1,h2⟩:=List.nodup_cons.1 hn
  have:=N7 l (K.erase x) h2 fun y hy=>(List.mem_erase_of_ne (fun e=>h1 (by rw[<-e];exact hy))).2 (hs y (List.mem_cons_of_mem _ hy))
  rw[List.length_erase_of_mem (hs x (by simp))] at this
  have:0<K.length:=List.length_pos_of_mem (hs x (by simp))
  simp only[List.length_cons]
  omega
theorem Bf.nodup{e:Nat}(h:Bf K R L i e D):(D.map (·.1)).Nodup:=by
 rw[List.Nodup,List.pairwise_iff_getElem]
 intro a b ha hb hab he
 rw[List.length_map] at ha hb
 have:nAt D a=nAt D b:=by
  unfold nAt
  rw[List.getElem?_eq_getElem ha,List.getElem?_eq_getElem hb]
  simpa using he
 have:=h.nd a b ha hb this
 omega
theorem Bf.len{e:Nat}(h:Bf K R L i e D):D.length<=K.length:=by
 have:=N7 (D.map (·.1)) K h.nodup fun x hx=>by
  obtain⟨j,hj,rfl⟩:=mem_nAt.1 hx
  exact h.inK j hj
 simpa using this
theorem Ch2(hL: ∀n,(L n).Pairwise (· < ·)): ∀(f i:Nat) (D:DD),Bf K R L i i D->i<=D.length->K.length<f+i->∃i',i'=(goB K L f i D).length/\Bf K R L i' i' (goB K L f i D)
 | 0,i,D,h,hi,hf=>by have:=h.len;omega
 | f+1,i,D,h,hi,hf=>by
  unfold goB
  split
  ·rename_i c
   obtain⟨h1,h2⟩:=Bh0 hL h c
   exact Ch2 hL f (i+1) _ h1 Zo Zo
  ·exact⟨i,Zo,h⟩
theorem Tc(hL: ∀n,(L n).Pairwise (· < ·))(hp:R.Pairwise (· <= ·)):Bf K R L (Ch1 K L R).length (Ch1 K L R).length (Ch1 K L R):=by
 obtain⟨i,rfl,h⟩:=Ch2 hL (K.length+1) 0 (V0 K R) (Ae7 hp) (Nat.zero_le _) Zo
 exact h
def chF(D:DD):Nat->Nat->List Int
 | 0,j=>[nAt D j]
 | f+1,j=>if qAt D j=j then[nAt D j] else chF D f (qAt D j)++[nAt D j]
def L2(D:DD)(j:Nat):List Int:=chF D j j
theorem Gh{e:Nat}(h:Bf K R L i e D): ∀(f j:Nat),j<D.length->j<=f->chF D f j=chF D j j
  | 0, j, _, hf => by obtain rfl : j = 0 := by omega
                      rfl
  | f+1,0,hj,hf=>by
    have:qAt D 0=0:=Classical.byContradiction fun hq=>by have:=(h.par 0 hj hq).1;omega
    unfold chF
    rw[if_pos this]
  | f+1,j+1,hj,hf=>by
    show(if qAt D (j+1)=j+1 then _ else chF D f (qAt D (j+1))++_)=(if qAt D (j+1)=j+1 then _ else chF D j (qAt D (j+1))++_)
    split
    · rfl
    · rename_i c
      have h1:=(h.par (j+1) hj c).1
      rw[Gh h f _ Zo Zo,Gh h j _ Zo Zo]
theorem W7{e:Nat}(h:Bf K R L i e D)(hj:j<D.length):L2 D j=if qAt D j=j then[nAt D j] else L2 D (qAt D j)++[nAt D j]:=by
 unfold L2
 cases j with
 | zero=>
  have:qAt D 0=0:=Classical.byContradiction fun hq=>by have:=(h.par 0 hj hq).1;omega
  rw[if_pos this]
  rfl
 | succ j=>
  show(if qAt D (j+1)=j+1 then _ else chF D j (qAt D (j+1))++_)=_
  split
  ·rfl
  ·rename_i c
   have h1:=(h.par (j+1) hj c).1
   rw[Gh h j _ Zo Zo]
theorem N5{e:Nat}(h:Bf K R L i e D): ∀(f j:Nat),j<f->j<D.length->Pth K R L (L2 D j) (nAt D j)
 | 0,j,hf,_=>by omega
 | f+1,j,hf,hj=>by
  rw[W7 h hj]
  split
  ·rename_i c
   exact .root (h.root j hj c) (h.inK j hj)
  ·rename_i c
   obtain⟨h1,_,h3⟩:=h.par j hj c
   exact .step (N5 h f _ Zo Zo) h3 (h.inK j hj)
theorem Iq{p:List Int}(h:Pth K R L p n):n∈K:=by cases h<;>assumption
theorem Lz{p:List Int}(h:Pth K R L p n):0<p.length:=by cases h<;>simp
theorem Bo{p:List Int}(h:Pth K R L p n):p.getLast? =some n:=by cases h<;>simp
def Eo:List Int->List Int->Prop
 | [],_=>True
 | _::_,[]=>False
 | a::p,b::q=>a<b\/(a=b/\Eo p q)
theorem Fg: ∀{p q:List Int},p.length=q.length->Eo p q->Eo q p->p=q
 | [],[],_,_,_=>rfl
 | [],_::_,h,_,_=>by simp at h
 | _::_,[],h,_,_=>by simp at h
 | a::p,b::q,h,h1,h2=>by
  rcases h1 with h1 | ⟨rfl,h1⟩
  ·rcases h2 with h2 | ⟨rfl,h2⟩
   ·omega
   ·omega
  ·rcases h2 with h2 | ⟨_,h2⟩
   ·omega
   ·rw[Fg (by simpa using h) h1 h2]
theorem Ir: ∀{p q:List Int} (x y:List Int),p.length=q.length->Eo p q->p≠q->Eo (p++x) (q++y)
 | [],[],_,_,_,_,h=>absurd rfl h
 | [],_::_,_,_,h,_,_=>by simp at h
 | _::_,[],_,_,h,_,_=>by simp at h
 | a::p,b::q,x,y,h,h1,h2=>by
  rcases h1 with h1 | ⟨rfl,h1⟩
  ·exact .inl h1
  ·exact .inr ⟨rfl,Ir x y (by simpa using h) h1 (fun e=>h2 (by rw[e]))⟩
theorem Fh: ∀(p:List Int) {x y:List Int},Eo x y->Eo (p++x) (p++y)
 | [],_,_,h=>h
 | _::p,_,_,h=>.inr ⟨rfl,Fh p h⟩
def Dm5(p q:List Int):Prop:=p.length<q.length\/(p.length=q.length/\Eo p q)
theorem Td{p q:List Int}(h1:Dm5 p q)(h2:Dm5 q p):p=q:=by
 rcases h1 with h1 | ⟨e,h1⟩
 ·rcases h2 with h2 | ⟨e,_⟩<;>omega
 ·rcases h2 with h2 | ⟨_,h2⟩
  ·omega
  ·exact Fg e h1 h2
theorem It(h:Bf K R L D.length D.length D){p:List Int}{v:Int}(hp:Pth K R L p v): ∃j',j'<D.length/\nAt D j'=v/\∀j,j<=j'->Dm5 (L2 D j) p:=by
 induction hp with
 | root hr hk=>
  rename_i r
  obtain⟨j',h1,h2,h3⟩:=h.roots r hr hk
  refine⟨j',h1,h2,fun j hj=> ?_⟩
  have hq:qAt D j=j/\nAt D j<=r:=by
   rcases Nat.lt_or_ge j j' with h4 | h4
   ·have:=h.rise j j' h4 h1 h3
    exact⟨this.1,Zo⟩
   ·obtain rfl:j=j':=by omega
    exact⟨h3,Zo⟩
  rw[W7 h Zo,if_pos hq.1]
  refine .inr ⟨rfl, ?_⟩
  rcases Int.lt_or_eq_of_le hq.2 with h5 | h5
  ·exact .inl h5
  ·exact .inr ⟨h5,trivial⟩
 | step hp hv hk ih=>
  rename_i p u v
  obtain⟨ju,h1,h2,h3⟩:=ih
  subst h2
  obtain⟨j',h4,h5,h6⟩:=h.done ju h1 h1 v hv hk
  refine⟨j',h4,h5,fun j hj=> ?_⟩
  have hpos:=Lz hp
  rw[W7 h Zo]
  split
  ·left
   simp only[List.length_cons,List.length_nil,List.length_append]
   omega
  ·rename_i c
   have hjl:j<D.length:=by omega
   have hq':qAt D j'≠j':=fun e=>by
    rcases Nat.lt_or_ge j j' with h7 | h7
    ·exact c (h.rise j j' h7 h4 e).1
    ·obtain rfl:j=j':=by omega
     exact c e
   have hqle:qAt D j<=qAt D j'/\(qAt D j=qAt D j'->nAt D j<=nAt D j'):=by
    rcases Nat.lt_or_ge j j' with h7 | h7
    ·obtain⟨m1,m2⟩:=h.mono j j' h7 h4 c
     exact⟨m1,fun e=>Int.le_of_lt (m2 e)⟩
    ·obtain rfl:j=j':=by omega
     exact⟨Nat.le_refl _,fun _=>Int.le_refl _⟩
   have hju:qAt D j'<=ju:=by
    rcases h6 with h6 | h6
    ·exact absurd h6 hq'
    ·exact h6
   have hjq:=(h.par j hjl c).1
   rcases h3 (qAt D j) Zo with h8 | ⟨h8,h9⟩
   ·left
    simp only[List.length_cons,List.length_nil,List.length_append]
    omega
   ·refine .inr ⟨by simp[h8], ?_⟩
    by_cases he:L2 D (qAt D j)=p
    ·have e1:nAt D (qAt D j)=nAt D ju:=by
      have a1:=Bo (N5 h (qAt D j+1) (qAt D j) Zo Zo)
      have a2:=Bo hp
      rw[he,a2] at a1
      injection a1 with a1
      exact a1.symm
     have e2:=h.nd _ _ Zo h1 e1
     rw[he]
     refine Fh p ?_
     have:=hqle.2 Zo
     rw[h5] at this
     rcases Int.lt_or_eq_of_le this with h10 | h10
     ·exact .inl h10
     ·exact .inr ⟨h10,trivial⟩
    ·exact Ir _ _ h8 h9 he
theorem Cg(h:Bf K R L D.length D.length D)(v:Int):v∈D.map (·.1)↔∃p,Pth K R L p v:=by
 constructor
 ·intro hv
  obtain⟨j,hj,rfl⟩:=mem_nAt.1 hv
  exact⟨_,N5 h (j+1) j Zo hj⟩
 ·rintro⟨p,hp⟩
  obtain⟨j,hj,e,_⟩:=It h hp
  exact mem_nAt.2 ⟨j,hj,e⟩
end
inductive Wk (K:List Int) (L:Int->List Int):Int->List Int->Int->Prop
 | one {u:Int}:Wk K L u [u] u
 | step {u x v:Int} {p:List Int}:x∈L u->x∈K->Wk K L x p v->Wk K L u (u::p) v
section
variable {K R:List Int} {L:Int->List Int} {fr:Int->Int} {tz:Int}
theorem Bh1{u v x:Int}{p:List Int}(h:Wk K L u p v)(h1:x∈L v)(h2:x∈K):Wk K L u (p++[x]) x:=by
 induction h with
 | one=>exact .step h1 h2 .one
 | step a b c ih=>exact .step a b (ih h1)
theorem Iu{p:List Int}{v:Int}(h:Pth K R L p v): ∃r,r∈R/\r∈K/\Wk K L r p v:=by
 induction h with
 | root a b=>exact⟨_,a,b,.one⟩
 | step a b c ih=>
  obtain⟨r,h1,h2,h3⟩:=ih
  exact⟨r,h1,h2,Bh1 h3 b c⟩
theorem Ac{u v:Int}{p:List Int}(h:Wk K L u p v): ∃q,p=u::q:=by cases h<;>exact⟨_,rfl⟩
theorem Ch3{u v:Int}{p:List Int}(h:Wk K L u p v): ∀{q:List Int},Pth K R L (q++[u]) u->Pth K R L (q++p) v:=by
 induction h with
 | one=>intro q hq;exact hq
 | step a b c ih=>
  rename_i u x v p
  intro q hq
  have h1:Pth K R L ((q++[u])++[x]) x:=.step hq a b
  have:=ih h1
  simpa using this
theorem Te{r v:Int}{p:List Int}(hr:r∈R)(hk:r∈K)(h:Wk K L r p v):Pth K R L p v:=by
 have:=Ch3 (R:=R) h (q:=[]) (.root hr hk)
 simpa using this
structure Far (K:List Int) (L:Int->List Int) (tz:Int) (fr:Int->Int):Prop where
 z:fr tz=0
 z': ∀u,u∈K->fr u=0->u=tz
 s: ∀u,u∈K->0<fr u->∃n,n∈L u/\n∈K/\fr n=fr u-1
 t: ∀u,u∈K->∀n,n∈L u->n∈K->0<=fr n->0<=fr u/\fr u<=fr n+1
theorem Far.wk(h:Far K L tz fr){u v:Int}{p:List Int}(hw:Wk K L u p v)(hv:v=tz)(hu:u∈K):0<=fr u/\fr u+1<=p.length:=by
 induction hw with
 | one=>subst hv;rw[h.z];simp
 | step a b c ih=>
  have h1:=ih hv b
  have h2:=h.t _ hu _ a b h1.1
  simp only[List.length_cons]
  omega
inductive Gr (K:List Int) (L:Int->List Int) (fr:Int->Int) (tz:Int):Int->List Int->Prop
 | one:Gr K L fr tz tz [tz]
 | step {u x:Int} {p:List Int}:u∈K->x∈L u->x∈K->fr x=fr u-1->0<fr u->(∀y,y∈L u->y∈K->fr y=fr u-1->x<=y)->Gr K L fr tz x p->Gr K L fr tz u (u::p)
theorem Gr.len(h:Far K L tz fr){u:Int}{p:List Int}(g:Gr K L fr tz u p):(p.length:Int)=fr u+1:=by
 induction g with
 | one=>rw[h.z];simp
 | step a b c d e f g ih=>simp only[List.length_cons];omega
theorem Gr.wk{u:Int}{p:List Int}(g:Gr K L fr tz u p):Wk K L u p tz:=by
 induction g with
 | one=>exact .one
 | step a b c d e f g ih=>exact .step b c ih
theorem Gr.least(h:Far K L tz fr){u:Int}{p:List Int}(g:Gr K L fr tz u p): ∀{q:List Int},Wk K L u q tz->q.length=p.length->Eo p q:=by
 induction g with
 | one=>
  intro q hq hl
  obtain⟨q',rfl⟩:=Ac hq
  exact .inr ⟨rfl,trivial⟩
 | step a b c d e f g ih=>
  rename_i u x p
  intro q hq hl
  refine(?_ : ∀v,v=tz->Wk K L u q v->Eo (u::p) q) tz rfl hq
  intro v hv hq
  cases hq with
  | one=>
   obtain⟨p',rfl⟩:=Ac g.wk
   simp at hl
  | step a' b' c'=>
   rename_i y q
   subst hv
   refine .inr ⟨rfl, ?_⟩
   have hl':q.length=p.length:=by simpa using hl
   have h1:=h.wk c' rfl b'
   have h2:=h.t _ a _ a' b' h1.1
   have h3:=g.len h
   have h4:=f y a' b' Zo
   rcases Int.lt_or_eq_of_le h4 with h5 | h5
   ·obtain⟨p',rfl⟩:=Ac g.wk
    obtain⟨q',rfl⟩:=Ac c'
    exact .inl h5
   ·subst h5
    exact ih c' hl'
theorem Iv(h:Far K L tz fr){r:Int}{g:List Int}(hr:r∈R)(hk:r∈K)(hg:Gr K L fr tz r g)(hb: ∀u,u∈R->u∈K->0<=fr u->fr r<fr u\/(fr r=fr u/\r<=u)):
  Pth K R L g tz/\∀p,Pth K R L p tz->Dm5 g p:=by
 refine⟨Te hr hk hg.wk,fun p hp=> ?_⟩
 obtain⟨u,h1,h2,h3⟩:=Iu hp
 have h4:=h.wk h3 rfl h2
 have h5:=hg.len h
 rcases hb u h1 h2 h4.1 with h6 | ⟨h6,h7⟩
 ·left;omega
 ·rcases Nat.lt_or_ge g.length p.length with h8 | h8
  ·exact .inl h8
  ·have h9:p.length=g.length:=by omega
   refine .inr ⟨h9.symm, ?_⟩
   rcases Int.lt_or_eq_of_le h7 with h10 | h10
   ·obtain⟨p',rfl⟩:=Ac h3
    obtain⟨g',rfl⟩:=Ac hg.wk
    exact .inl h10
   ·subst h10
    exact hg.least h h3 h9
theorem Ch4(h:Far K L tz fr)(hb: ∀u,u∈R->u∈K->fr u<0)(p:List Int)(hp:Pth K R L p tz):False:=by
 obtain⟨u,h1,h2,h3⟩:=Iu hp
 have:=h.wk h3 rfl h2
 have:=hb u h1 h2
 omega
theorem Iw(h:Far K L tz fr){D:DD}(hB:Bf K R L D.length D.length D){r:Int}{g:List Int}(hr:r∈R)(hk:r∈K)(hg:Gr K L fr tz r g)(hb: ∀u,u∈R->u∈K->0<=fr u->fr r<fr u\/(fr r=fr u/\r<=u)):
  ∃j,j<D.length/\nAt D j=tz/\L2 D j=g:=by
 obtain⟨h1,h2⟩:=Iv h hr hk hg hb
 obtain⟨j,hj,e,h3⟩:=It hB h1
 refine⟨j,hj,e,Td (h3 j (Nat.le_refl _)) (h2 _ ?_)⟩
 have:=N5 hB (j+1) j Zo hj
 rw[e] at this
 exact this
end
def L3(l:List Int):List Int:=l.mergeSort (fun x y=>decide (x<=y))
theorem sortZ_mem{l:List Int}{x:Int}:x∈L3 l↔x∈l:=List.mem_mergeSort
theorem Bp(l:List Int):(L3 l).Pairwise (· <= ·):=by
 have:=List.pairwise_mergeSort (le:=fun x y=>decide (x<=y)) (fun a b c h1 h2=>by simp only[decide_eq_true_eq] at*;omega) (fun a b=>by simp only[Bool.or_eq_true,decide_eq_true_eq];omega) l
 exact this.imp fun h=>by simpa using h
theorem Gi{l:List Int}(h:l.Nodup):(L3 l).Pairwise (· < ·):=by
 have h1:(L3 l).Nodup:=(List.mergeSort_perm l _).nodup_iff.2 h
 exact(List.pairwise_and_iff.2 ⟨Bp l,h1⟩).imp fun h=>by omega
theorem N6: ∀{a b:List Int},a.Pairwise (· < ·)->b.Pairwise (· < ·)->(∀x,x∈a↔x∈b)->a=b
 | [],[],_,_,_=>rfl
 | [],y::b,_,_,h=>absurd ((h y).2 (by simp)) (by simp)
 | x::a,[],_,_,h=>absurd ((h x).1 (by simp)) (by simp)
 | x::a,y::b,ha,hb,h=>by
  obtain⟨a1,a2⟩:=List.pairwise_cons.1 ha
  obtain⟨b1,b2⟩:=List.pairwise_cons.1 hb
  have e:x=y:=by
   have h1:=(h x).1 (by simp)
   have h2:=(h y).2 (by simp)
   rcases List.mem_cons.1 h1 with h1 | h1
   ·exact h1
   ·rcases List.mem_cons.1 h2 with h2 | h2
    ·exact h2.symm
    ·have:=b1 x h1
     have:=a1 y h2
     omega
  subst e
  rw[N6 a2 b2 fun z=> ?_]
  have hz:=h z
  simp only[List.mem_cons] at hz
  constructor
  ·intro m
   rcases hz.1 (.inr m) with rfl | h2
   ·exact absurd (a1 z m) Zo
   ·exact h2
  ·intro m
   rcases hz.2 (.inr m) with rfl | h2
   ·exact absurd (b1 z m) Zo
   ·exact h2
def N1(K:List Int)(L:Int->List Int)(R:List Int):List Int:=L3 ((Ch1 K L R).map (·.1))
def LOk(L:Int->List Int):Prop:= ∀n,(L n).Pairwise (· < ·)
section
variable {K R R':List Int} {L L':Int->List Int}
theorem Bq(hL:LOk L)(hp:R.Pairwise (· <= ·)):(N1 K L R).Pairwise (· < ·):=Gi (Tc hL hp).nodup
theorem R6(hL:LOk L)(hp:R.Pairwise (· <= ·)){v:Int}:v∈N1 K L R↔∃p,Pth K R L p v:=by
 unfold N1
 rw[sortZ_mem]
 exact Cg (Tc hL hp) v
theorem Ae8(h: ∀r,r∈R->r∈R'){p:List Int}{v:Int}(hp:Pth K R L p v):Pth K R' L p v:=by
 induction hp with
 | root a b=>exact .root (h _ a) b
 | step a b c ih=>exact .step ih b c
theorem Tf{K':List Int}(hK: ∀p v,Pth K R L p v->v∈K')(hLL: ∀n,n∈K'->L' n=L n){p:List Int}{v:Int}(hp:Pth K R L p v):Pth K' R L' p v:=by
 induction hp with
 | root a b=>exact .root a (hK _ _ (.root a b))
 | step a b c ih=>exact .step ih (by rw[hLL _ (hK _ _ a)];exact b) (hK _ _ (.step a b c))
theorem Ae9{K':List Int}(hK: ∀n,n∈K'->n∈K)(hLL: ∀n,n∈K'->L' n=L n){p:List Int}{v:Int}(hp:Pth K' R L' p v):Pth K R L p v:=by
 induction hp with
 | root a b=>exact .root a (hK _ b)
 | step a b c ih=>exact .step ih (by rw[<-hLL _ (Iq a)];exact b) (hK _ c)
theorem Gj(hL:LOk L)(hp:R.Pairwise (· <= ·)){v:Int}(h:v∈N1 K L R):v∈K:=by
 obtain⟨p,h⟩:=(R6 hL hp).1 h
 exact Iq h
theorem Fi(hL:LOk L)(hp:R.Pairwise (· <= ·))(hK:K.Pairwise (· < ·)):K.filter (fun n=>decide (n∈N1 K L R))=N1 K L R:=
 N6 (hK.filter _) (Bq hL hp) fun x=>by
  simp only[List.mem_filter,decide_eq_true_eq]
  exact⟨fun h=>h.2,fun h=>⟨Gj hL hp h,h⟩⟩
theorem Ma(hL:LOk L)(hL':LOk L')(hp:R.Pairwise (· <= ·))(hp':R'.Pairwise (· <= ·))(h: ∀r,r∈R'->r∈R)(hLL: ∀n,n∈N1 K L R->L' n=L n):N1 (N1 K L R) L' R'=N1 K L R':=
 N6 (Bq hL' hp') (Bq hL hp') fun x=>by
  rw[R6 hL' hp',R6 hL hp']
  constructor
  ·rintro⟨p,h1⟩
   exact⟨p,Ae9 (fun n hn=>Gj hL hp hn) hLL h1⟩
  ·rintro⟨p,h1⟩
   exact⟨p,Tf (fun q v hq=>(R6 hL hp).2 ⟨q,Ae8 h hq⟩) hLL h1⟩
end
end Go.Proofs.YtbjegfpfmnleeaaGreatDoor
namespace Go.Proofs.YtbjegfpfmnleeaaGreatDoor
open Go.RowKit Go.Sort
set_option maxRecDepth 100000
theorem Qt{w:World}{S:Nat->Prop}{b o:Nat}{l:List Int}(h:PathAt w S (some ⟨b,o,none⟩) l): ∀j,j<l.length->w.cell? ⟨b,o+j,none⟩=some (ii (l.getD j 0)):=fun j hj=>by
 obtain⟨b',o',e,_,hc⟩:=h.get (List.getElem?_eq_getElem hj)
 injection e with e
 injection e with e1 e2
 subst e1 e2
 rw[hc]
 simp[List.getD,List.getElem?_eq_getElem hj]
theorem Ae{w:World}{S:Nat->Prop}{pa:Option Addr}{l:List Int}(hp:PathAt w S pa l)(pc:Nat)(hl:l.length<=1000000000):
  Calls Tryz.prog 39 #[.slice pa l.length pc] w fun e w'=> ∃y:S3,e=.returned (.slice y.d y.n y.c)/\(ZRow w' w.heap.size y l/\Below w.heap.size w w'):=by
 cases pa with
 | none=>
  have:l=[]:=by
   rcases hp with h | ⟨b,o,h,_⟩
   ·exact h
   ·cases h
  subst this
  refine(Tryz.slices_Clone_int_nil 0 pc w).mono ?_
  rintro e w' ⟨rfl,rfl⟩
  exact⟨⟨none,0,0⟩,rfl,ZRow.nil _ _,Below.refl _ _⟩
 | some a=>
  by_cases h0:l=[]
  ·subst h0
   refine(Tryz.slices_Clone_int_zero a pc w).mono ?_
   rintro e w' ⟨v,rfl,h1,_,h2⟩
   obtain⟨s,rfl,hs⟩:=ARow.of_v h1
   exact⟨s,rfl,hs,h2⟩
  ·obtain⟨b,o,rfl⟩: ∃b o,a=⟨b,o,none⟩:=by
    rcases hp with h | ⟨b,o,h,_⟩
    ·exact absurd h h0
    ·injection h with h
     exact⟨b,o,h⟩
   refine(Tryz.slices_Clone_int b o l.length pc l w (Nat.le_refl _) Zo (Qt hp)).mono ?_
   rintro e w' ⟨v,rfl,h1,_,h2⟩
   rw[List.take_length] at h1
   obtain⟨s,rfl,hs⟩:=ARow.of_v h1
   exact⟨s,rfl,hs,h2⟩
theorem Cn{w:World}{g:Nat}{l:List Int}{cs:Array Value}(hB:Blk w g 3 cs)(ht:cs.toList.take (l.length*1)=l.map (Value.int .i64)):Holds (Value.int .i64) w g 0 l.toArray:=by
 rw[Nat.mul_one] at ht
 exact holds_of_blockI hB ht
theorem Co{w:World}{B:Nat}{s:S3}{l:List Int}(h:ZRow w B s l)(hl:l.length<=1000000000):Calls Tryz.prog 40 #[.slice s.d s.n s.c] w fun e w'=>e=.returned (.tuple #[])/\(ZRow w' B s (L3 l)/\Rw w w' s s):=by
 rcases ARow.cases h with⟨rfl,h1,h2⟩ | ⟨g,cs,h1,h2,h3,h4,h5,h6,h7,h8⟩
 ·have:l=[]:=List.eq_nil_of_length_eq_zero h1
  subst this
  refine(Tryz.slices_Sort_int_none none 0 w).mono ?_
  rintro e w' ⟨rfl,rfl⟩
  exact⟨rfl,by rw[show L3 []=[] from List.mergeSort_nil];exact ZRow.nil _ _,.of_below (Below.refl _ _) _⟩
 ·rw[h1] at h2 ⊢
  have hlen:(L3 l).length=l.length:=List.length_mergeSort _
  refine(Tryz.slices_Sort_int g 0 s.c l w (Cn h4 h8) h4.lt Zo).mono ?_
  rintro e w' ⟨rfl,n,os,rfl⟩
  have ho:=ownsRow_sortedI (ts:=L3 l) (n:=n) (os:=os) hlen h3 h4 h5 h6 h7
  have hg:=grownBy_sortedI (w:=w) (g:=g) (n:=n) (os:=os) (L3 l).toArray
  have h1':S3.v ⟨some ⟨g,0,none⟩,l.length,s.c⟩=.slice (some ⟨g,0,none⟩) l.length s.c:=rfl
  refine⟨rfl, ?_,⟨⟨hg.size,hg.os,hg.tape,hg.output,fun b hb hn=>hg.block b hb fun e=>hn (by rw[h2];exact e.symm)⟩,.inl rfl⟩⟩
  refine⟨hlen.symm, ?_⟩
  show World.ownsRow _ _ _ _ _ (L3 l).length _
  rw[hlen]
  exact ho
theorem S5{l:List Int}(hl:l.Pairwise (· <= ·)): ∀m,m<=l.length->(Lib.compactUpTo l.toArray m).Pairwise (· < ·)/\(∀x,x∈Lib.compactUpTo l.toArray m↔x∈l.take m)
 | 0,_=>⟨by simp[Lib.compactUpTo],fun x=>by simp[Lib.compactUpTo]⟩
 | m+1,hm=>by
  obtain⟨h1,h2⟩:=S5 hl m Zo
  have hg:l[m]? =some l[m]:=List.getElem?_eq_getElem Zo
  have hga:l.toArray[m]! =l[m]:=by simp[show m<l.length by omega]
  rw[Lib.compactUpTo_succ,hga]
  have ht:l.take (m+1)=l.take m++[l[m]]:=by rw[List.take_add_one,hg];rfl
  have hle: ∀x,x∈l.take m->x<=l[m]:=fun x hx=>by
   have hl':=hl
   rw[<-List.take_append_drop m l,List.pairwise_append] at hl'
   refine hl'.2.2 x hx l[m] ?_
   exact List.mem_iff_getElem.2 ⟨0,by rw[List.length_drop];omega,by simp⟩
  by_cases hk:Lib.keeps l.toArray m=true
  ·rw[if_pos hk]
   have hlt: ∀x,x∈l.take m->x<l[m]:=fun x hx=>by
    have h3:=hle x hx
    rcases Nat.eq_zero_or_pos m with rfl | h0
    ·simp at hx
    ·have hne:l[m]≠l[m-1]:=by
      unfold Lib.keeps at hk
      have e1:l.toArray[m-1]! =l[m-1]:=by simp[show m-1<l.length by omega]
      rw[hga,e1] at hk
      intro e
      simp[e] at hk
      omega
     have h4:x<=l[m-1]:=by
      obtain⟨j,hj,e⟩:=List.mem_iff_getElem.1 hx
      rw[List.length_take] at hj
      rw[List.getElem_take] at e
      rw[<-e]
      rcases Nat.lt_or_ge j (m-1) with h5 | h5
      ·exact List.pairwise_iff_getElem.1 hl j (m-1) Zo Zo h5
      ·have:j=m-1:=by omega
       subst this
       exact Int.le_refl _
     have h5:=List.pairwise_iff_getElem.1 hl (m-1) m Zo Zo Zo
     omega
   refine⟨List.pairwise_append.2 ⟨h1,List.pairwise_singleton _ _,fun a ha b hb=> ?_⟩,fun x=> ?_⟩
   ·have:b=l[m]:=by simpa using hb
    subst this
    exact hlt a ((h2 a).1 ha)
   ·rw[ht,List.mem_append,List.mem_append,h2]
  ·rw[if_neg hk,List.append_nil]
   refine⟨h1,fun x=> ?_⟩
   rw[h2,ht]
   have h0:0<m:=by
    rcases Nat.eq_zero_or_pos m with rfl | h0
    ·exact absurd (Lib.keeps_lt_one l.toArray 0 Zo) hk
    ·exact h0
   have he:l[m]=l[m-1]:=by
    have e1:l.toArray[m-1]! =l[m-1]:=by simp[show m-1<l.length by omega]
    rcases Decidable.em (l[m]=l[m-1]) with h | h
    ·exact h
    ·exact absurd (Lib.keeps_pos (by rw[hga,e1];exact h)) hk
   have hmem:l[m-1]∈l.take m:=List.mem_iff_getElem.2 ⟨m-1,by rw[List.length_take];omega,by rw[List.getElem_take]⟩
   constructor
   ·intro h
    exact List.mem_append_left _ h
   ·intro h
    rcases List.mem_append.1 h with h | h
    ·exact h
    ·have:x=l[m]:=by simpa using h
     rw[this,he]
     exact hmem
def L4(l:List Int):List Int:=Lib.compact l
theorem Aj4{l:List Int}(hl:l.Pairwise (· <= ·)):(L4 l).Pairwise (· < ·):=(S5 hl l.length (Nat.le_refl _)).1
theorem Vl{l:List Int}(hl:l.Pairwise (· <= ·))(x:Int):x∈L4 l↔x∈l:=by
 have:=(S5 hl l.length (Nat.le_refl _)).2 x
 rw[List.take_length] at this
 exact this
theorem Jp(l:List Int):(L4 l).length<=l.length:=by
 unfold L4 Lib.compact Lib.compactUpTo
 rw[List.length_map]
 exact Nat.le_trans (List.length_filter_le _ _) (by simp)
theorem Jq{w:World}{B:Nat}{s:S3}{l:List Int}(h:ZRow w B s l)(hl:l.length<=1000000000):Calls Tryz.prog 41 #[.slice s.d s.n s.c] w fun e w'=> ∃t:S3,e=.returned (.slice t.d t.n t.c)/\(ZRow w' B t (L4 l)/\Rw w w' s t):=by
 rcases ARow.cases h with⟨rfl,h1,h2⟩ | ⟨g,cs,h1,h2,h3,h4,h5,h6,h7,h8⟩
 ·have:l=[]:=List.eq_nil_of_length_eq_zero h1
  subst this
  refine(Tryz.slices_Compact_int_empty none 0 w).mono ?_
  rintro e w' ⟨rfl,rfl⟩
  exact⟨⟨none,0,0⟩,rfl,ZRow.nil _ _,.of_below (Below.refl _ _) _⟩
 ·rw[h1] at h2 ⊢
  have hdl:=Jp l
  have hlen:(L4 l++List.replicate (l.length-(L4 l).length) 0).length=l.length:=by simp;omega
  refine(Tryz.slices_Compact_int g 0 s.c l w (Cn h4 h8) Zo h5).mono ?_
  rintro e w' ⟨rfl,n,rfl⟩
  have e0:putRow (Value.int .i64) (Sort.ahead w n) g 0 (L4 l++List.replicate (l.length-(L4 l).length) 0).toArray=grow (putRow (Value.int .i64) (Sort.ahead w n) g 0 (L4 l++List.replicate (l.length-(L4 l).length) 0).toArray) #[]:=(grow_empty _).symm
  have hg:=grownBy_sortedI (w:=w) (g:=g) (n:=n) (os:=#[]) (L4 l++List.replicate (l.length-(L4 l).length) (0:Int)).toArray
  have hh:=heap_sortedI (w:=w) (g:=g) (n:=n) (os:=#[]) (L4 l++List.replicate (l.length-(L4 l).length) (0:Int)).toArray h4
  rw[<-e0] at hg hh
  refine⟨⟨some ⟨g,0,none⟩,(L4 l).length,s.c⟩,rfl,⟨rfl,by simp,.inr ⟨g,s.c,_,rfl,h3,hh,by show(L4 l).length<=s.c;omega,h6,by simp[putCells,h7], ?_⟩⟩,⟨⟨hg.size,hg.os,hg.tape,hg.output,fun b hb hn=>hg.block b hb fun e=>hn (by rw[h2];exact e.symm)⟩,.inl rfl⟩⟩
  have ht:=take_putCellsI cs (L4 l++List.replicate (l.length-(L4 l).length) 0) (by rw[hlen];omega)
  rw[hlen] at ht
  have:=congrArg (List.take (L4 l).length) ht
  rw[List.take_take,Nat.min_eq_left hdl,List.map_append] at this
  show List.take ((L4 l).length*1) _=_
  rw[Nat.mul_one]
  exact this.trans (List.take_left' (by simp))
theorem Jr{w:World}{B:Nat}{s:S3}{l:List Int}(h:ZRow w B s l)(hl:l.length<=1000000000):Calls Tryz.prog 30 #[.slice s.d s.n s.c] w fun e w'=>e=.returned (.tuple #[])/\(ZRow w' B s l.reverse/\Rw w w' s s):=by
 rcases ARow.cases h with⟨rfl,h1,h2⟩ | ⟨g,cs,h1,h2,h3,h4,h5,h6,h7,h8⟩
 ·have:l=[]:=List.eq_nil_of_length_eq_zero h1
  subst this
  refine(Tryz.slices_Reverse_int_empty none 0 w).mono ?_
  rintro e w' ⟨rfl,rfl⟩
  exact⟨rfl,ZRow.nil _ _,.of_below (Below.refl _ _) _⟩
 ·rw[h1] at h2 ⊢
  refine(Tryz.slices_Reverse_int g 0 s.c l w (Cn h4 h8) Zo).mono ?_
  rintro e w' ⟨rfl,n,rfl⟩
  have e0:putRow (Value.int .i64) (Sort.ahead w n) g 0 l.reverse.toArray=grow (putRow (Value.int .i64) (Sort.ahead w n) g 0 l.reverse.toArray) #[]:=(grow_empty _).symm
  rw[e0]
  have ho:=ownsRow_sortedI (ts:=l.reverse) (n:=n) (os:=#[]) (List.length_reverse) h3 h4 h5 h6 h7
  have hg:=grownBy_sortedI (w:=w) (g:=g) (n:=n) (os:=#[]) l.reverse.toArray
  refine⟨rfl, ?_,⟨⟨hg.size,hg.os,hg.tape,hg.output,fun b hb hn=>hg.block b hb fun e=>hn (by rw[h2];exact e.symm)⟩,.inl rfl⟩⟩
  refine⟨List.length_reverse.symm, ?_⟩
  show World.ownsRow _ _ _ _ _ l.reverse.length _
  rw[List.length_reverse]
  exact ho
end Go.Proofs.YtbjegfpfmnleeaaGreatDoor
namespace Go.Proofs.YtbjegfpfmnleeaaGreatDoor
open Go.RowKit Go.Maps
set_option maxRecDepth 100000
variable {B:Nat} {w:World} {gh:Nat} {O:Nat->Prop} {last:Nat} {T:Tm} {bm:Nat} {pt:Nat->Nat} {own:Nat->Nat->Prop}
theorem ZRow.path{w:World}{B:Nat}{s:S3}{l:List Int}(h:ZRow w B s l):PathAt w (fun b=>B<=b/\b<w.heap.size) s.d l/\s.n=l.length/\l.length<=s.c/\capOk s.d s.c:=by
 rcases ARow.cases h with⟨rfl,h1,h2⟩ | ⟨g,cs,h1,h2,h3,h4,h5,h6,h7,h8⟩
 ·have:l=[]:=List.eq_nil_of_length_eq_zero h1
  subst this
  exact⟨.inl rfl,rfl,by simp,capOk.nil⟩
 ·have e1:s.d=some ⟨g,0,none⟩:=by rw[h1]
  refine⟨.inr ⟨g,0,e1,⟨h3,h4.lt⟩,fun j x hj=> ?_⟩,by rw[h1],h5,by rw[e1];exact capOk.some (by unfold maxLen at h6;exact h6)⟩
  rw[Nat.mul_one] at h8
  have h9:(cs.toList.take l.length)[j]? =some (ii x):=by rw[h8];simp[hj]
  rw[List.getElem?_take_of_lt (List.getElem?_eq_some_iff.1 hj).1] at h9
  rw[h4.cell,Nat.zero_add,<-Array.getElem?_toList]
  exact h9
set_option maxHeartbeats 1000000 in
theorem Uy(h:HSx B w gh O last T bm pt own)(hown:OwnAt w)(hl:last<1000){a b:Fd}(ha:a.ok)(hb:b.ok){S:Nat->Prop}{ia:Option Addr}{ic:Nat}(hr:RowX w S ia [a,b])(hB:B<=w.heap.size):
  Calls Tryz.prog 60 #[pT gh,.slice ia 2 ic] w (MkR B w gh O last T (.ref 2 (last+1)) (.arr a b)):=by
 refine B6 (vs:=[pT gh,.slice ia 2 ic]) 31 Tryz.func60 Bj9 Zk (by simp) fun a0 h0=> ?_
 unfold Au8
 refine Zs (Dz9 h0 fun a1 h1=> ?_)
 have hZ:=Blk.new w C7 zA
 have hb1:Below w.heap.size w (w.alloc (.cells zA C7)):=B2 (Below.refl _ _) _
 change Code.wp _ _ _ a1 (w.alloc (.cells zA C7))
 generalize w.alloc (.cells zA C7)=w1 at hZ hb1 ⊢
 have hzZ:=hZ.lt
 have hr1:RowX w1 (fun x=>x<w.heap.size) ia [a,b]:=hr.keep (fun x _ hl=>hb1.block x hl) (fun x _ hl=>hl)
 refine wp_seq (Zs (Bk0 (sn:=2) (C0:=fun u=>Below w1.heap.size w1 u) h1 rfl Zd (Nu [a,b] (by simp[ha,hb]) (by simp) ia ic hr1 (hown.old hb1)) fun a2 u hu h2=>B9 (h2.look 13 rfl) ?_))
 have hz:=hu.size
 have hbu:=A7 hb1 hu
 have hZu:=hZ.below hu hzZ
 have hru:RowX u (fun x=>x<w.heap.size) ia [a,b]:=hr1.keep (fun x hx hl=>hu.block x hl) (fun x hx _=>hx)
 refine Zs (Ea0 (sn:=2) (C0:=fun q v=>RowN u.heap.size v q [a,b]/\Below u.heap.size u v)
  (C1:=fun y v=>y=((Fd.ref 2 (last+1)).dt,dm0)/\HQ B u v gh O (last+1) (T++[(last+1,.arr a b)])/\Moved O u v) h2 rfl rfl rfl ((Ur [a,b] (by simp) ia ic u hru).mono fun e v ⟨s,r1,r2,_,r3⟩=>⟨s,r1,r2,r3⟩) (fun q v hq=> ?_) (fun q v hq y v2 hy=>D1 ((hy.2.2.block _ Zo fun e=>by have:=(h.lim _ e).2;omega).trans hZu) (by show 0+11<=11;omega)) fun a3 q v y v2 hq hy h3=>wp_ret ?_)
 ·obtain⟨hs,hbv⟩:=hq
  obtain⟨q1,q2,q3,q4⟩:=RowN.row hs
  have hzv:=hbv.size
  have hN:NewT B (v.alloc (.cells #[.slice q.d q.n q.c] Co9)) O (fun x=>u.heap.size<=x/\x<v.heap.size+1) v.heap.size (.arr a b):=
   ⟨fun x hx=>⟨Zo,by simp;exact hx.2,fun e=>by have:=(h.lim _ e).2;omega⟩,⟨hzv,Nat.lt_succ_self _⟩,q.d,q.c,by rw[q2];exact Blk.new _ _ _,q1.keep (fun x _ hl=>Below.heap_alloc _ _ _ hl) (fun x hx hl=>⟨hx.1,Zo⟩),q3,q4⟩
  have hx:=h.old (A7 hb1 (A7 hu (B2 hbv (.cells #[.slice q.d q.n q.c] Co9))))
  refine(Gp hx hl hN ⟨hdX 5 ⟨#[108,105,115,116]⟩ 0 0 2,.nil⟩ dm0).mono ?_
  rintro e v2 ⟨r1,r2,r3⟩
  exact⟨((Fd.ref 2 (last+1)).dt,dm0),r1,rfl,HQ.made (B2 hbv _) r2 r3 (fun x hx=>hx.1),(Moved.of_below (B2 hbv _)).trans (r3.more fun _ h=>.inl h)⟩
 ·obtain⟨rfl,hQ,hM⟩:=hy
  have hZ3:Blk v2 w.heap.size C7 zA:=(hM.block _ Zo fun e=>by have:=(h.lim _ e).2;omega).trans hZu
  have hZ5:Lds Tryz.prog C7 (pT w.heap.size) (.agg ((Fd.ref 2 (last+1)).dt.cs dm0)) _:=C6 (K1 (Fd.ref 2 (last+1)).dt dm0 hZ3) rfl
  exact Kd rfl h3 rfl rfl hZ5 ⟨rfl,HQ.fin hbu hQ Zo Zo (fun b hb=>(h.lim b hb).2) _ _⟩
set_option maxHeartbeats 1000000 in
theorem Ai3(h:HSx B w gh O last T bm pt own)(hl:last<1000)(hB:B<=w.heap.size):
  Calls Tryz.prog 61 #[pT gh] w fun e w'=>e=.returned (.agg ((Fd.ref 3 (last+1)).dt.cs dm0))/\HQ B w w' gh O (last+1) (T++[(last+1,.tab [])]):=by
 refine B6 (vs:=[pT gh]) 16 Tryz.func61 Bk1 Zk (by simp) fun a0 h0=> ?_
 unfold Au9
 refine Zs (Ea1 h0 fun a1 h1=> ?_)
 have hZ:=Blk.new w C7 zA
 have hb1:Below w.heap.size w (w.alloc (.cells zA C7)):=B2 (Below.refl _ _) _
 change Code.wp _ _ _ a1 (w.alloc (.cells zA C7))
 generalize w.alloc (.cells zA C7)=u at hZ hb1 ⊢
 have hzZ:=hZ.lt
 have hz:=hb1.size
 refine Zs (Ea2 (C0:=fun mb v=>mb=u.heap.size/\MapAt v u.heap.size [] (fun _=>False) (fun b=>b=u.heap.size)/\Below u.heap.size u v)
  (C1:=fun y v=>y=((Fd.ref 3 (last+1)).dt,dm0)/\HQ B u v gh O (last+1) (T++[(last+1,.tab [])])/\Moved O u v) h1 rfl ((Aj8 u).mono fun e v hh=>⟨_,hh.1,rfl,hh.2⟩) (fun mb v hq=> ?_) (fun mb v hq y v2 hy=>D1 (Blk.new v2 C7 zA) (by show 0+11<=11;omega)) fun a3 mb v y v2 hq hy h3=> ?_)
 ·obtain⟨rfl,hmap,hbv⟩:=hq
  have hzv:=hbv.size
  have hml:=MapAt.dlim hmap _ (.inr rfl)
  have hba:Below v.heap.size v (v.alloc (.cells #[pT u.heap.size] Bl5)):=B2 (Below.refl _ _) _
  have hN:NewT B (v.alloc (.cells #[pT u.heap.size] Bl5)) O (fun x=>u.heap.size<=x/\x<v.heap.size+1) v.heap.size (.tab []):=
   ⟨fun x hx=>⟨Zo,by simp;exact hx.2,fun e=>by have:=(h.lim _ e).2;omega⟩,⟨hzv,Nat.lt_succ_self _⟩,u.heap.size,[],_,_,Blk.new _ _ _,MapAt.keepB hmap hba.size (fun b hb=>hba.block b (MapAt.dlim hmap b hb)),fun b hb=>by
    rcases hb with hb | rfl
    ·exact hb.elim
    ·exact⟨⟨Nat.le_refl _,Zo⟩,Zo⟩,rfl⟩
  have hx:=h.old (A7 hb1 (B2 hbv (.cells #[pT u.heap.size] Bl5)))
  refine(Gp hx hl hN ⟨hdX 6 ⟨#[109,97,112]⟩ 0 0 0,.nil⟩ dm0).mono ?_
  rintro e v2 ⟨r1,r2,r3⟩
  exact⟨((Fd.ref 3 (last+1)).dt,dm0),r1,rfl,HQ.made (B2 hbv _) r2 r3 (fun x hx=>hx.1),(Moved.of_below (B2 hbv _)).trans (r3.more fun _ h=>.inl h)⟩
 ·obtain⟨rfl,hQ,hM⟩:=hy
  have hX:=Q8 (w:=v2) (Fd.ref 3 (last+1)).dt dm0
  change Code.wp _ _ _ a3 ((v2.alloc (.cells zA C7)).setCells v2.heap.size 0 ((Fd.ref 3 (last+1)).dt.cs dm0).toList)
  generalize (v2.alloc (.cells zA C7)).setCells v2.heap.size 0 ((Fd.ref 3 (last+1)).dt.cs dm0).toList=v3 at hX ⊢
  obtain⟨hX1,hX2⟩:=hX
  have hzm:=hM.size
  have hZ3:Blk v3 w.heap.size C7 zA:=(hX2.block _ Zo).trans ((hM.block _ Zo fun e=>by have:=(h.lim _ e).2;omega).trans hZ)
  refine Zs (Ea3 (d:=(Fd.ref 3 (last+1)).dt) (m:=dm0) h3 rfl rfl (C6 hX1 rfl) (D1 hZ3 (by show 0+11<=11;omega)) fun a4 h4=>wp_ret ?_)
  have hZ5:Lds Tryz.prog C7 (pT w.heap.size) (.agg ((Fd.ref 3 (last+1)).dt.cs dm0)) _:=C6 (K1 (Fd.ref 3 (last+1)).dt dm0 hZ3) rfl
  exact Gy rfl h4 rfl hZ5 ⟨rfl,HQ.fin hb1 (hQ.post hX2) Zo Zo (fun b hb=>(h.lim b hb).2) _ _⟩
theorem Ai4(h:HSx B w gh O last T bm pt own)(hown:OwnAt w)(hl:last<1000){a:Fd}(ha:a.ok)(hB:B<=w.heap.size):
  Calls Tryz.prog 62 #[pT gh,.agg (a.dt.cs dm0)] w fun e w'=>e=.returned (.tuple #[ii ((last+1:Nat):Int),.nilIface])/\HQ B w w' gh O (last+1) (T++[(last+1,.box a)]):=by
 refine B6 (vs:=[pT gh,.agg (a.dt.cs dm0)]) 19 Tryz.func62 Bk3 Zk (by simp) fun a0 h0=> ?_
 unfold Av0
 refine Zs (Ea4 h0 rfl fun a1 h1=> ?_)
 have hA:=Blk.new w C7 (a.dt.cs dm0)
 have hb1:Below w.heap.size w (w.alloc (.cells (a.dt.cs dm0) C7)):=B2 (Below.refl _ _) _
 change Code.wp _ _ _ a1 (w.alloc (.cells (a.dt.cs dm0) C7))
 generalize w.alloc (.cells (a.dt.cs dm0) C7)=w1 at hA hb1 ⊢
 have hzA:=hA.lt
 have hR:=X6 (Jg a ha) (Gm a w1 fun _=>False) (hown.old hb1)
 rw[N2 a ha] at hR
 refine wp_seq (Zs (Ea5 (C0:=fun u=>Below w1.heap.size w1 u) h1 rfl (C6 hA rfl) hR fun a2 u hu h2=>B9 (h2.look 8 rfl) ?_))
 have hz:=hu.size
 have hbu:=A7 hb1 hu
 refine Zs (Ea6 (d:=a.dt) (m:=dm0) (n:=last+1) (C0:=fun q v=>q=dm0/\Below u.heap.size u v) (C1:=fun v=>HQ B u v gh O (last+1) (T++[(last+1,.box a)])) h2 rfl rfl (C6 (hA.below hu hzA) rfl) ((Jf a u).mono fun e v hh=>⟨dm0,hh.1,rfl,hh.2⟩) (fun q v hq=> ?_) fun a3 q v v2 hq hy h3=>wp_ret ?_)
 ·obtain⟨rfl,hbv⟩:=hq
  have hzv:=hbv.size
  have hN:NewT B (v.alloc (.cells (a.dt.cs dm0) Cp0)) O (fun x=>x=v.heap.size) v.heap.size (.box a):=
   ⟨fun x hx=>⟨Zo,by simp;omega,fun e=>by have:=(h.lim _ e).2;omega⟩,rfl,Blk.new _ _ _⟩
  have hx:=h.old (A7 hb1 (A7 hu (B2 hbv (.cells (a.dt.cs dm0) Cp0))))
  refine(Aw6 hx hl hN).mono ?_
  rintro e v2 ⟨r1,r2,r3⟩
  exact⟨r1,HQ.made (B2 hbv _) r2 (r3.more fun b hb=>by rcases hb with rfl | rfl;exact h.base.1;exact h.base.2) (fun x hx=>by omega)⟩
 ·exact Ej3 rfl h3 rfl rfl ⟨rfl,HQ.pre hbu hy⟩
end Go.Proofs.YtbjegfpfmnleeaaGreatDoor
