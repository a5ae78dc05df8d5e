/-
   Written by an AI agent.
-/
import Derived.Test.YtlhfickniegooaaDoorPk31
namespace Go.Proofs.YtlhfickniegooaaDoor
open Go.RowKit Go.Sort
set_option maxRecDepth 100000
theorem feq_symm(a b:Nat):feqB a b=feqB b a:=by
 unfold feqB
 rw[dec_symm (placeF a) (placeF b)]
 cases nanB a<;>cases nanB b<;>rfl
theorem equalH_symm{h h':Hd}(ho:oneB h h'=true):equalH h h'=equalH h' h:=by
 obtain⟨hk,ht⟩:=oneB_parts ho
 unfold equalH
 by_cases h3:h.kind=3
 ·rw[if_pos h3,if_pos (hk ▸ h3),feq_symm]
 rw[if_neg h3,if_neg (show ¬h'.kind=3 by omega)]
 by_cases h5:h.kind=5\/h.kind=6\/h.kind=7
 ·rw[if_pos h5,if_pos (show h'.kind=5\/h'.kind=6\/h'.kind=7 by omega),ht]
 rw[if_neg h5,if_neg (show ¬(h'.kind=5\/h'.kind=6\/h'.kind=7) by omega)]
 by_cases h9:h.kind=9
 ·rw[if_pos h9,if_pos (show h'.kind=9 by omega)]
  refine Prod.ext (decide_eq_decide.2 ⟨fun⟨a,b⟩=>⟨a.symm,b.symm⟩,fun⟨a,b⟩=>⟨a.symm,b.symm⟩⟩) rfl
 ·rw[if_neg h9,if_neg (show ¬h'.kind=9 by omega)]
  refine Prod.ext (decide_eq_decide.2 ⟨fun⟨a,b⟩=>⟨a.symm,b.symm⟩,fun⟨a,b⟩=>⟨a.symm,b.symm⟩⟩) rfl
theorem equalD_symm'{h h':Hd}{k k':Fo}(hF:equalF k k'=equalF k' k):equalD h k h' k'=equalD h' k' h k:=by
 unfold equalD
 rw[oneB_symm h' h]
 by_cases ho:oneB h h'=false
 ·rw[if_pos ho,if_pos ho]
 have ho':oneB h h'=true:=by revert ho;cases oneB h h'<;>simp
 have hk:=(oneB_parts ho').1
 rw[if_neg ho,if_neg ho]
 by_cases h8:h.kind=8
 ·rw[if_pos h8,if_pos (show h'.kind=8 by omega)]
  by_cases hl:k.len≠k'.len
  ·rw[if_pos hl,if_pos (Ne.symm hl)]
  ·rw[if_neg hl,if_neg (fun e=>hl (Ne.symm e)),hF]
 ·rw[if_neg h8,if_neg (show ¬h'.kind=8 by omega),equalH_symm ho']
theorem equalF_symm: ∀f g:Fo,equalF f g=equalF g f
 | .nil,.nil=>rfl
 | .nil,.cons .. =>by simp[equalF]
 | .cons ..,.nil=>by simp[equalF]
 | .cons h k r,.cons h' k' r'=>by
  rw[equalF_cons,equalF_cons,equalD_symm' (h:=h) (h':=h') (equalF_symm k k'),equalF_symm r r']
theorem equalD_symm(h:Hd)(k:Fo)(h':Hd)(k':Fo):equalD h k h' k'=equalD h' k' h k:=equalD_symm' (equalF_symm k k')
theorem oneB_trans{a b c:Hd}(h1:oneB a b=true)(h2:oneB b c=true):oneB a c=true:=by
 obtain⟨p1,p2⟩:=oneB_parts h1
 obtain⟨q1,q2⟩:=oneB_parts h2
 exact decide_eq_true ⟨p1.trans q1,p2.trans q2⟩
theorem equalH_trans{a b c:Hd}(o1:oneB a b=true)(h1:(equalH a b).1=true)(h2:(equalH b c).1=true):(equalH a c).1=true:=by
 have hk:=(oneB_parts o1).1
 unfold equalH at*
 by_cases h3:a.kind=3
 ·rw[if_pos h3] at h1 ⊢
  rw[if_pos (show b.kind=3 by omega)] at h2
  obtain⟨p1,p2,p3⟩:=feq_nan h1
  obtain⟨q1,q2,q3⟩:=feq_nan h2
  exact feq_mk p1 q2 (p3.trans q3)
 rw[if_neg h3] at h1 ⊢
 rw[if_neg (show ¬b.kind=3 by omega)] at h2
 by_cases h5:a.kind=5\/a.kind=6\/a.kind=7
 ·rw[if_pos h5] at h1;cases h1
 rw[if_neg h5] at h1 ⊢
 rw[if_neg (show ¬(b.kind=5\/b.kind=6\/b.kind=7) by omega)] at h2
 by_cases h9:a.kind=9
 ·rw[if_pos h9] at h1 ⊢
  rw[if_pos (show b.kind=9 by omega)] at h2
  have e1:a.obj=b.obj/\a.path=b.path:=of_decide_eq_true h1
  have e2:b.obj=c.obj/\b.path=c.path:=of_decide_eq_true h2
  exact decide_eq_true ⟨e1.1.trans e2.1,e1.2.trans e2.2⟩
 ·rw[if_neg h9] at h1 ⊢
  rw[if_neg (show ¬b.kind=9 by omega)] at h2
  have e1:a.n=b.n/\a.s=b.s:=of_decide_eq_true h1
  have e2:b.n=c.n/\b.s=c.s:=of_decide_eq_true h2
  exact decide_eq_true ⟨e1.1.trans e2.1,e1.2.trans e2.2⟩
theorem eqD_open{h h':Hd}{k k':Fo}(ht:(equalD h k h' k').1=true):oneB h h'=true/\(h.kind=8->k.len=k'.len/\(equalF k k').1=true)/\(h.kind≠8->(equalH h h').1=true):=by
 unfold equalD at ht
 by_cases ho:oneB h h'=false
 ·rw[if_pos ho] at ht;cases ht
 rw[if_neg ho] at ht
 have ho':oneB h h'=true:=by revert ho;cases oneB h h'<;>simp
 refine⟨ho',fun h8=> ?_,fun h8=> ?_⟩
 ·rw[if_pos h8] at ht
  by_cases hl:k.len≠k'.len
  ·rw[if_pos hl] at ht;cases ht
  ·rw[if_neg hl] at ht;exact⟨by omega,ht⟩
 ·rw[if_neg h8] at ht;exact ht
theorem eqD_shut{h h':Hd}{k k':Fo}(ho:oneB h h'=true)(h1:h.kind=8->k.len=k'.len/\(equalF k k').1=true)(h2:h.kind≠8->(equalH h h').1=true):(equalD h k h' k').1=true:=by
 unfold equalD
 rw[if_neg (by rw[ho];simp)]
 by_cases h8:h.kind=8
 ·rw[if_pos h8,if_neg (by have:=(h1 h8).1;omega)];exact(h1 h8).2
 ·rw[if_neg h8];exact h2 h8
theorem eqD_trans'{a b c:Hd}{k l m:Fo}(hF:k.len=l.len->l.len=m.len->(equalF k l).1=true->(equalF l m).1=true->(equalF k m).1=true)(h1:(equalD a k b l).1=true)(h2:(equalD b l c m).1=true):(equalD a k c m).1=true:=by
 obtain⟨p1,p2,p3⟩:=eqD_open h1
 obtain⟨q1,q2,q3⟩:=eqD_open h2
 have hk:=(oneB_parts p1).1
 refine eqD_shut (oneB_trans p1 q1) (fun h8=> ?_) (fun h8=>equalH_trans p1 (p3 h8) (q3 (by omega)))
 obtain⟨x1,x2⟩:=p2 h8
 obtain⟨y1,y2⟩:=q2 (by omega)
 exact⟨x1.trans y1,hF x1 y1 x2 y2⟩
theorem eqF_trans: ∀(f g m:Fo),f.len=g.len->g.len=m.len->(equalF f g).1=true->(equalF g m).1=true->(equalF f m).1=true
 | .nil,g,m,_,_,_,_=>by simp[equalF]
 | .cons h k r,.nil,m,l1,_,_,_=>by simp[Fo.len] at l1
 | .cons h k r,.cons h' k' r',.nil,_,l2,_,_=>by simp[Fo.len] at l2
 | .cons h k r,.cons h' k' r',.cons h2 k2 r2,l1,l2,e1,e2=>by
  simp only[Fo.len,Nat.add_right_cancel_iff] at l1 l2
  rw[equalF_cons] at e1 e2 ⊢
  by_cases t1:(equalD h k h' k').1=true
  ·rw[if_pos t1] at e1
   by_cases t2:(equalD h' k' h2 k2).1=true
   ·rw[if_pos t2] at e2
    rw[if_pos (eqD_trans' (eqF_trans k k' k2) t1 t2)]
    exact eqF_trans r r' r2 l1 l2 e1 e2
   ·rw[if_neg t2] at e2;cases e2
  ·rw[if_neg t1] at e1;cases e1
theorem eqD_trans{a b c:Hd}{k l m:Fo}(h1:(equalD a k b l).1=true)(h2:(equalD b l c m).1=true):(equalD a k c m).1=true:=eqD_trans' (eqF_trans k l m) h1 h2
theorem eqO_symm(a b:Dt):eqO a b=eqO b a:=by unfold eqO;rw[equalD_symm]
theorem eqO_trans{a b c:Dt}(h1:eqO a b=true)(h2:eqO b c=true):eqO a c=true:=eqD_trans h1 h2
theorem eqO_own{a b:Dt}(h:eqO a b=true):eqO a a=true:=eqO_trans h (by rw[eqO_symm];exact h)
def prE(e:En):Dt×Dt:=(e.key,e.val)
def prR(x:Re):Dt×Dt:=(x.k,x.v)
def Apart(a b:Dt):Prop:=eqO a b=false
theorem Apart.symm{a b:Dt}(h:Apart a b):Apart b a:=by unfold Apart at*;rw[eqO_symm];exact h
structure RL (R:List En) (L:List Re) (many:Int):Prop where
 pr:R.reverse.map prE=L.map prR
 uq:L.Pairwise (fun x y=>Apart x.k y.k)
 num:L.Pairwise (fun x y=>x.n<y.n)
 top: ∀x∈L,x.n<=many
theorem pw_ne{α:Type}{r:α->α->Prop}(hs: ∀a b,r a b->r b a): ∀(l:List α),l.Pairwise r->∀a∈l,∀b∈l,a≠b->r a b
 | [],_,_,h,_,_,_=>by cases h
 | x::l,h,a,ha,b,hb,hne=>by
  obtain⟨h1,h2⟩:=List.pairwise_cons.1 h
  rcases List.mem_cons.1 ha with ea | ha'
  ·rcases List.mem_cons.1 hb with eb | hb'
   ·exact absurd (ea.trans eb.symm) hne
   ·rw[ea]
    exact h1 b hb'
  ·rcases List.mem_cons.1 hb with eb | hb'
   ·rw[eb]
    exact hs _ _ (h1 a ha')
   ·exact pw_ne hs l h2 a ha' b hb' hne
theorem find_rev{α:Type}{p:α->Bool}: ∀(l:List α),l.Pairwise (fun x y=> ¬(p x=true/\p y=true))->l.reverse.find? p=l.find? p
 | [],_=>rfl
 | a::t,h=>by
  obtain⟨h1,h2⟩:=List.pairwise_cons.1 h
  rw[List.reverse_cons,List.find?_append,find_rev t h2]
  cases ha:p a with
  | true=>
   have hn:t.find? p=none:=List.find?_eq_none.2 fun x hx hp=>h1 x hx ⟨ha,hp⟩
   rw[hn,List.find?_cons_of_pos ha]
   simp[ha]
  | false=>
   rw[List.find?_cons_of_neg (by rw[ha];simp)]
   simp[ha]
theorem RL.len{R:List En}{L:List Re}{many:Int}(h:RL R L many):R.length=L.length:=by
 have:=congrArg List.length h.pr
 simpa using this
theorem RL.uqP{R:List En}{L:List Re}{many:Int}(h:RL R L many):R.Pairwise (fun x y=>Apart x.key y.key):=by
 have h1:(L.map prR).Pairwise (fun a b=>Apart a.1 b.1):=List.pairwise_map.2 h.uq
 rw[<-h.pr] at h1
 have h2:=List.pairwise_map.1 h1
 have h3:=List.pairwise_reverse.1 h2
 exact h3.imp fun h=>h.symm
def RtE(R:List En):Prop:= ∀e∈R,e.key.ok/\rB e.key=true/\e.hash=hV e.key/\e.own=eqO e.key e.key
theorem fE_eq{R:List En}{d:Dt}(hR:RtE R)(ho:d.ok)(hr:rB d=true):fE R d=R.find? (fun e=>eqO e.key d):=by
 unfold fE
 induction R with
 | nil=>rfl
 | cons e R ih=>
  obtain⟨q1,q2,q3,_⟩:=hR e (List.mem_cons_self ..)
  have ih:=ih (fun x hx=>hR x (List.mem_cons_of_mem _ hx))
  have:(e.hash==hV d&&eqO e.key d)=eqO e.key d:=by
   cases he:eqO e.key d with
   | false=>simp
   | true=>
    have:hV e.key=hV d:=hashV_eq q1.h ho.h q1.k ho.k q2 hr he
    rw[q3,this]
    simp
  rw[List.find?_cons,List.find?_cons,this,ih]
theorem RL.find{R:List En}{L:List Re}{many:Int}(h:RL R L many)(hR:RtE R){d:Dt}(ho:d.ok)(hr:rB d=true):(fE R d).map prE=(L.find? fun y=>eqO y.k d).map prR:=by
 rw[fE_eq hR ho hr]
 have h1:R.reverse.find? (fun e=>eqO e.key d)=R.find? (fun e=>eqO e.key d):=find_rev R (h.uqP.imp fun{x y} hxy ⟨a,b⟩=>by
  have:eqO x.key y.key=true:=eqO_trans a (by rw[eqO_symm];exact b)
  rw[hxy] at this
  cases this)
 rw[<-h1]
 have h2:=congrArg (fun l:List (Dt×Dt)=>l.find? (fun q=>eqO q.1 d)) h.pr
 simp only[List.find?_map] at h2
 exact h2
def Evo(L:List Re)(many:Int)(L':List Re)(many':Int):Prop:=
 many<=many'/\(∀y∈L',many<y.n\/∃x∈L,x.n=y.n/\x.k=y.k/\(eqO x.k x.k=false->x.v=y.v))/\∀x∈L,eqO x.k x.k=false->∃y∈L',y.n=x.n/\y.k=x.k/\y.v=x.v
theorem Evo.refl(L:List Re)(many:Int):Evo L many L many:=⟨Int.le_refl _,fun y hy=>.inr ⟨y,hy,rfl,rfl,fun _=>rfl⟩,fun x hx _=>⟨x,hx,rfl,rfl,rfl⟩⟩
theorem Evo.trans{A B C:List Re}{a b c:Int}(h:Evo A a B b)(k:Evo B b C c):Evo A a C c:=by
 refine⟨Int.le_trans h.1 k.1,fun y hy=> ?_,fun x hx ho=> ?_⟩
 ·rcases k.2.1 y hy with q | ⟨x,hx,e1,e2,e3⟩
  ·exact .inl (Int.lt_of_le_of_lt h.1 q)
  ·rcases h.2.1 x hx with q | ⟨z,hz,f1,f2,f3⟩
   ·exact .inl (e1 ▸ q)
   ·exact .inr ⟨z,hz,f1.trans e1,f2.trans e2,fun hn=>(f3 hn).trans (e3 (f2 ▸ hn))⟩
 ·obtain⟨y,hy,e1,e2,e3⟩:=h.2.2 x hx ho
  obtain⟨z,hz,f1,f2,f3⟩:=k.2.2 y hy (e2 ▸ ho)
  exact⟨z,hz,f1.trans e1,f2.trans e2,f3.trans e3⟩
theorem RL.find_none{R:List En}{L:List Re}{many:Int}(h:RL R L many)(hR:RtE R){d:Dt}(ho:d.ok)(hr:rB d=true)(hf:fE R d=none):L.find? (fun y=>eqO y.k d)=none:=by
 have:=h.find hR ho hr
 rw[hf] at this
 cases hl:L.find? (fun y=>eqO y.k d) with
 | none=>rfl
 | some y=>rw[hl] at this;cases this
theorem RL.find_some{R:List En}{L:List Re}{many:Int}(h:RL R L many)(hR:RtE R){d:Dt}(ho:d.ok)(hr:rB d=true){x:En}(hf:fE R d=some x): ∃y,L.find? (fun y=>eqO y.k d)=some y/\y.k=x.key/\y.v=x.val:=by
 have:=h.find hR ho hr
 rw[hf] at this
 cases hl:L.find? (fun y=>eqO y.k d) with
 | none=>rw[hl] at this;cases this
 | some y=>
  rw[hl] at this
  have this:some (x.key,x.val)=some (y.k,y.v):=this
  injection this with this
  injection this with e1 e2
  exact⟨y,rfl,e1.symm,e2.symm⟩
theorem pw_mid{α:Type}{r:α->α->Prop}(hs: ∀a b,r a b->r b a){X Z:List α}{y:α}(h:(X++y::Z).Pairwise r): ∀x,x∈X\/x∈Z->r x y:=by
 obtain⟨_,h2,h3⟩:=List.pairwise_append.1 h
 intro x hx
 rcases hx with hx | hx
 ·exact h3 x hx y (List.mem_cons_self ..)
 ·exact hs _ _ ((List.pairwise_cons.1 h2).1 x hx)
theorem no_eq{a b d:Dt}(h:Apart a b)(hb:eqO b d=true):eqO a d=false:=by
 cases ha:eqO a d with
 | false=>rfl
 | true=>
  have:=eqO_trans ha (show eqO d b=true by rw[eqO_symm];exact hb)
  rw[h] at this
  cases this
def putP(k v:Dt)(q:Dt×Dt):Dt×Dt:=if eqO q.1 k=true then(q.1,v) else q
theorem RL.put{R R':List En}{L L':List Re}{many many':Int}(h:RL R L many)(hR:RtE R)(hnd:(R.map (·.g)).Nodup){k v:Dt}(ho:k.ok)(hc:(rB k&&rB v&&kB k)=true)(hp:PutNew R k v R')(hi:PutI L k v many L' many'):
  RL R' L' many'/\Evo L many L' many'/\L'.length<=L.length+1/\many'<=many+1:=by
 have hr:rB k=true:=by
  revert hc
  cases rB k<;>simp
 unfold PutI at hi
 rw[if_pos hc] at hi
 unfold PutNew at hp
 cases hf:fE R k with
 | none=>
  rw[h.find_none hR ho hr hf] at hi
  rw[hf] at hp
  obtain⟨g,rfl⟩:=hp
  obtain⟨dk,dv,rfl,rfl⟩:=hi
  have hno:=List.find?_eq_none.1 (h.find_none hR ho hr hf)
  refine⟨⟨?_, ?_, ?_, ?_⟩,⟨by omega,fun y hy=> ?_,fun x hx _=>⟨x,List.mem_append_left _ hx,rfl,rfl,rfl⟩⟩,by simp,Int.le_refl _⟩
  ·rw[List.reverse_cons,List.map_append,List.map_append,h.pr]
   rfl
  ·refine List.pairwise_append.2 ⟨h.uq,List.pairwise_singleton _ _,fun x hx y hy=> ?_⟩
   rw[List.mem_singleton.1 hy]
   exact Bool.eq_false_iff.2 (hno x hx)
  ·refine List.pairwise_append.2 ⟨h.num,List.pairwise_singleton _ _,fun x hx y hy=> ?_⟩
   rw[List.mem_singleton.1 hy]
   have:=h.top x hx
   show x.n<many+1
   omega
  ·intro x hx
   rcases List.mem_append.1 hx with hx | hx
   ·have:=h.top x hx
    omega
   ·rw[List.mem_singleton.1 hx]
    exact Int.le_refl _
  ·rcases List.mem_append.1 hy with hy | hy
   ·exact .inr ⟨y,hy,rfl,rfl,fun _=>rfl⟩
   ·rw[List.mem_singleton.1 hy]
    exact .inl (by show many<many+1;omega)
 | some x=>
  obtain⟨y,hy,e1,e2⟩:=h.find_some hR ho hr hf
  rw[hy] at hi
  rw[hf] at hp
  obtain rfl:R'=R.map (svE x.g v):=hp
  obtain⟨X,Z,dv,rfl,hX,rfl,rfl⟩:=hi
  have hyk:eqO y.k k=true:=List.find?_some (p:=fun y:Re=>eqO y.k k) hy
  have hap: ∀z,z∈X\/z∈Z->eqO z.k k=false:=fun z hz=>no_eq (pw_mid (r:=fun x y:Re=>Apart x.k y.k) (fun _ _ h=>h.symm) h.uq z hz) hyk
  have hxm:x∈R:=fE_mem hf
  have hxk:eqO x.key k=true:=e1 ▸ hyk
  have hone: ∀e∈R,prE (svE x.g v e)=putP k v (prE e):=fun e he=>by
   by_cases hex:e=x
   ·subst hex
    unfold svE putP prE
    rw[if_pos rfl,if_pos hxk]
   ·have hg:e.g≠x.g:=fun hg=>by
     have:=pw_ne (r:=fun a b:En=>a.g≠b.g) (fun _ _ h=>Ne.symm h) R (List.pairwise_map.1 hnd) e he x hxm hex
     exact this hg
    have hk: ¬eqO e.key k=true:=by
     rw[no_eq (pw_ne (r:=fun a b:En=>Apart a.key b.key) (fun _ _ h=>h.symm) R h.uqP e he x hxm hex) hxk]
     simp
    unfold svE putP prE
    rw[if_neg hg,if_neg hk]
  have hL:(X++{y with v:=v,dv:=dv}::Z).map prR=((X++y::Z).map prR).map (putP k v):=by
   have hs: ∀l:List Re,(∀z∈l,eqO z.k k=false)->(l.map prR).map (putP k v)=l.map prR:=fun l hl=>by
    rw[List.map_map]
    refine List.map_congr_left fun z hz=> ?_
    show putP k v (prR z)=prR z
    unfold putP
    rw[if_neg (by show ¬eqO z.k k=true;rw[hl z hz];simp)]
   rw[List.map_append,List.map_append,List.map_append,List.map_cons,List.map_cons,List.map_cons,hs X (fun z hz=>hap z (.inl hz)),hs Z (fun z hz=>hap z (.inr hz))]
   congr 2
   show(y.k,v)=putP k v (y.k,y.v)
   unfold putP
   rw[if_pos hyk]
  have hkn:(X++{y with v:=v,dv:=dv}::Z).map (fun x=>(x.k,x.n))=(X++y::Z).map (fun x=>(x.k,x.n)):=by simp
  refine⟨⟨?_, ?_, ?_, ?_⟩,⟨Int.le_refl _,fun z hz=> ?_,fun z hz hzo=> ?_⟩,by simp,by omega⟩
  ·rw[hL,<-h.pr,<-List.map_reverse,List.map_map,List.map_map]
   exact List.map_congr_left fun e he=>hone e (List.mem_reverse.1 he)
  ·have h1:((X++y::Z).map (fun x=>(x.k,x.n))).Pairwise (fun a b=>Apart a.1 b.1):=List.pairwise_map.2 h.uq
   rw[<-hkn] at h1
   have h2:=List.pairwise_map.1 h1
   exact h2
  ·have h1:((X++y::Z).map (fun x=>(x.k,x.n))).Pairwise (fun a b=>a.2<b.2):=List.pairwise_map.2 h.num
   rw[<-hkn] at h1
   have h2:=List.pairwise_map.1 h1
   exact h2
  ·intro z hz
   rcases List.mem_append.1 hz with hz | hz
   ·exact h.top z (List.mem_append_left _ hz)
   ·rcases List.mem_cons.1 hz with rfl | hz
    ·exact h.top y (List.mem_append_right _ (List.mem_cons_self ..))
    ·exact h.top z (List.mem_append_right _ (List.mem_cons_of_mem _ hz))
  ·rcases List.mem_append.1 hz with hz | hz
   ·exact .inr ⟨z,List.mem_append_left _ hz,rfl,rfl,fun _=>rfl⟩
   ·rcases List.mem_cons.1 hz with rfl | hz
    ·refine .inr ⟨y,List.mem_append_right _ (List.mem_cons_self ..),rfl,rfl,fun hn=> ?_⟩
     have:=eqO_own hyk
     rw[hn] at this
     cases this
    ·exact .inr ⟨z,List.mem_append_right _ (List.mem_cons_of_mem _ hz),rfl,rfl,fun _=>rfl⟩
  ·rcases List.mem_append.1 hz with hz | hz
   ·exact⟨z,List.mem_append_left _ hz,rfl,rfl,rfl⟩
   ·rcases List.mem_cons.1 hz with rfl | hz
    ·have:=eqO_own hyk
     rw[hzo] at this
     cases this
    ·exact⟨z,List.mem_append_right _ (List.mem_cons_of_mem _ hz),rfl,rfl,rfl⟩
theorem filt_mid{α:Type}{q:α->Bool}{X Z:List α}{x:α}(hX: ∀e,e∈X\/e∈Z->q e=true)(hx:q x=false):(X++x::Z).filter q=X++Z:=by
 rw[List.filter_append,List.filter_cons_of_neg (by rw[hx];simp),List.filter_eq_self.2 (fun a ha=>hX a (.inl ha)),List.filter_eq_self.2 (fun a ha=>hX a (.inr ha))]
theorem RL.drop{X Z:List En}{x:En}{L:List Re}{many:Int}(h:RL (X++x::Z) L many)(hR:RtE (X++x::Z)){d:Dt}(ho:d.ok)(hr:rB d=true)(hk:kB d=true)(hf:fE (X++x::Z) d=some x):
  RL (X++Z) (dropI L d) many/\Evo L many (dropI L d) many/\(dropI L d).length<=L.length:=by
 obtain⟨y,hy,e1,e2⟩:=h.find_some hR ho hr hf
 have hd:dropI L d=L.eraseP (fun y=>eqO y.k d):=by
  unfold dropI
  rw[hr,hk]
  rfl
 obtain⟨A,B,rfl,hA,_,hyk⟩:=at_some hy
 have hxk:eqO x.key d=true:=e1 ▸ hyk
 rw[erase_at (fun x hx=>hA x hx) hyk] at hd
 rw[hd]
 have hapR: ∀z,z∈A\/z∈B->eqO z.k d=false:=fun z hz=>no_eq (pw_mid (r:=fun x y:Re=>Apart x.k y.k) (fun _ _ h=>h.symm) h.uq z hz) hyk
 have hapE: ∀z,z∈X\/z∈Z->eqO z.key d=false:=fun z hz=>no_eq (pw_mid (r:=fun x y:En=>Apart x.key y.key) (fun _ _ h=>h.symm) h.uqP z hz) hxk
 have hsub:(A++B).Sublist (A++y::B):=List.Sublist.append (List.Sublist.refl _) (List.sublist_cons_self ..)
 refine⟨⟨?_,h.uq.sublist hsub,h.num.sublist hsub,fun z hz=>h.top z (hsub.subset hz)⟩,⟨Int.le_refl _,fun z hz=>.inr ⟨z,hsub.subset hz,rfl,rfl,fun _=>rfl⟩,fun z hz hzo=> ?_⟩,by simp⟩
 ·have h1:=congrArg (fun l:List (Dt×Dt)=>l.filter (fun q=> !eqO q.1 d)) h.pr
  have f1:((A++y::B).map prR).filter (fun q=> !eqO q.1 d)=(A++B).map prR:=by
   rw[List.filter_map]
   congr 1
   exact filt_mid (fun e he=>by show(!eqO e.k d)=true;rw[hapR e he];rfl) (by show(!eqO y.k d)=false;rw[hyk];rfl)
  have f2:((X++x::Z).reverse.map prE).filter (fun q=> !eqO q.1 d)=(X++Z).reverse.map prE:=by
   rw[List.filter_map]
   congr 1
   rw[List.reverse_append,List.reverse_cons,List.append_assoc,List.singleton_append,List.reverse_append]
   exact filt_mid (fun e he=>by
    show(!eqO e.key d)=true
    rw[hapE e (he.elim (fun q=>.inr (List.mem_reverse.1 q)) (fun q=>.inl (List.mem_reverse.1 q)))]
    rfl) (by show(!eqO x.key d)=false;rw[hxk];rfl)
  exact f2.symm.trans (h1.trans f1)
 ·rcases List.mem_append.1 hz with hz | hz
  ·exact⟨z,List.mem_append_left _ hz,rfl,rfl,rfl⟩
  ·rcases List.mem_cons.1 hz with rfl | hz
   ·have:=eqO_own hyk
    rw[hzo] at this
    cases this
   ·exact⟨z,List.mem_append_right _ hz,rfl,rfl,rfl⟩
theorem drop_no{L:List Re}{d:Dt}(h:L.find? (fun y=>eqO y.k d)=none):dropI L d=L:=by
 unfold dropI
 split
 ·exact List.eraseP_of_forall_not (fun a ha=>by
   have:=List.find?_eq_none.1 h a ha
   simpa using this)
 ·rfl
end Go.Proofs.YtlhfickniegooaaDoor

namespace Go.Proofs.YtlhfickniegooaaDoor
open Go.RowKit Go.Sort
set_option maxRecDepth 100000
theorem num_eq{L:List Re}(h:L.Pairwise (fun x y=>x.n<y.n)){x y:Re}(hx:x∈L)(hy:y∈L)(e:x.n=y.n):x=y:=by
 by_cases hxy:x=y
 ·exact hxy
 ·have:=pw_ne (r:=fun a b:Re=>a.n≠b.n) (fun _ _ h=>Ne.symm h) L (h.imp fun{a b} hab=>by omega) x hx y hy hxy
  exact absurd e this
section
variable {R0 R:List En} {was L:List Re} {many0 many:Int} {x:Re}
theorem turn_gone(h0:RL R0 was many0)(he:Evo was many0 L many)(h:RL R L many)(hR:RtE R)(hx:x∈was)(ho:x.k.ok)(hr:rB x.k=true)(hown:eqO x.k x.k=true)(hf:fE R x.k=none):turnI L x=none:=by
 unfold turnI
 have hn:=h.find_none hR ho hr hf
 rw[hn]
 refine List.find?_eq_none.2 fun y hy hyn=> ?_
 have hyn:y.n=x.n:=by simpa using hyn
 rcases he.2.1 y hy with q | ⟨z,hz,e1,e2,_⟩
 ·have:=h0.top x hx
  omega
 ·obtain rfl:=num_eq h0.num hz hx (e1.trans hyn)
  have:=List.find?_eq_none.1 hn y hy
  rw[<-e2] at this
  exact this hown
theorem turn_own(h:RL R L many)(hR:RtE R)(ho:x.k.ok)(hr:rB x.k=true){f:En}(hf:fE R x.k=some f): ∃y,turnI L x=some y/\y∈L/\y.k=f.key/\y.v=f.val:=by
 obtain⟨y,hy,e1,e2⟩:=h.find_some hR ho hr hf
 unfold turnI
 rw[hy]
 exact⟨y,rfl,List.mem_of_find?_eq_some hy,e1,e2⟩
theorem turn_not(he:Evo was many0 L many)(h:RL R L many)(hx:x∈was)(hown:eqO x.k x.k=false): ∃y,turnI L x=some y/\y∈L/\y.k=x.k/\y.v=x.v:=by
 have hn:L.find? (fun y=>eqO y.k x.k)=none:=List.find?_eq_none.2 fun y _ hyx=>by
  have:=eqO_own (show eqO x.k y.k=true by rw[eqO_symm];exact hyx)
  rw[hown] at this
  cases this
 obtain⟨y,hy,e1,e2,e3⟩:=he.2.2 x hx hown
 unfold turnI
 rw[hn]
 have h2:(L.find? (fun y=>decide (y.n=x.n))).isSome=true:=List.find?_isSome.2 ⟨y,hy,by simpa using e1⟩
 obtain⟨z,hz⟩:=Option.isSome_iff_exists.1 h2
 have hzn:=List.find?_some hz
 have hzn:z.n=x.n:=by simpa using hzn
 have hzm:=List.mem_of_find?_eq_some hz
 obtain rfl:=num_eq h.num hzm hy (hzn.trans e1.symm)
 rw[hz]
 exact⟨z,rfl,hzm,e2,e3⟩
end
theorem RL.nth{R:List En}{L:List Re}{many:Int}(h:RL R L many){j:Nat}{e:En}(he:R.reverse[j]? =some e): ∃x,L[j]? =some x/\x∈L/\x.k=e.key/\x.v=e.val:=by
 have h1:(R.reverse.map prE)[j]? =some (prE e):=by rw[List.getElem?_map,he];rfl
 rw[h.pr,List.getElem?_map] at h1
 obtain⟨x,hx,e1⟩:=Option.map_eq_some_iff.1 h1
 have e1:(x.k,x.v)=(e.key,e.val):=e1
 injection e1 with e2 e3
 exact⟨x,hx,List.mem_of_getElem? hx,e2,e3⟩
def Told(wk:Bool)(R R0:List En)(a j:Nat)(k v:Dt):Prop:= ∃e,R0.reverse[j]? =some e/\a<=j/\(if wk=true then GoneB R R0 a j/\(if e.own=true then ∃f,fE R e.key=some f/\k=f.key/\v=f.val else k=e.key/\v=e.val) else a=j/\k=e.key/\v=e.val)
def Ended(wk:Bool)(R R0:List En)(a:Nat):Prop:=if wk=true then GoneB R R0 a R0.length else a=R0.length
section
variable {wk:Bool} {R0 R:List En} {was L:List Re} {many0 many:Int} {a j:Nat} {k v:Dt}
theorem gone_turn(h0:RL R0 was many0)(hR0:RtE R0)(he:Evo was many0 L many)(h:RL R L many)(hR:RtE R){b:Nat}(hg:GoneB R R0 a b){i:Nat}(hi:a<=i)(hib:i<b)(hbl:b<=R0.length): ∃x,was[i]? =some x/\x∈was/\turnI L x=none:=by
 obtain⟨e,hee⟩: ∃e,R0.reverse[i]? =some e:=⟨R0.reverse[i]'(by simp;omega),List.getElem?_eq_getElem _⟩
 obtain⟨q1,q2⟩:=hg i e hi hib hee
 obtain⟨x,hx,hxm,ek,_⟩:=h0.nth hee
 have hem:e∈R0:=List.mem_reverse.1 (List.mem_of_getElem? hee)
 obtain⟨o1,o2,_,o4⟩:=hR0 e hem
 refine⟨x,hx,hxm,turn_gone h0 he h hR hxm (ek ▸ o1) (ek ▸ o2) ?_ (ek ▸ q2)⟩
 rw[ek,<-o4]
 exact q1
theorem Told.lt(h:Told wk R R0 a j k v):a<=j/\j<R0.length:=by
 obtain⟨e,he,h1,_⟩:=h
 have:=(List.getElem?_eq_some_iff.1 he).1
 exact⟨h1,by simpa using this⟩
theorem Told.all(h0:RL R0 was many0)(h:Told false R R0 a j k v):a=j/\∃x,was[j]? =some x/\x∈was/\x.k=k/\x.v=v:=by
 obtain⟨e,he,h1,h2⟩:=h
 rw[if_neg (by simp)] at h2
 obtain⟨q1,rfl,rfl⟩:=h2
 obtain⟨x,hx,hxm,e1,e2⟩:=h0.nth he
 exact⟨q1,x,hx,hxm,e1,e2⟩
theorem Told.walk(h0:RL R0 was many0)(hR0:RtE R0)(he:Evo was many0 L many)(hL:RL R L many)(hR:RtE R)(h:Told true R R0 a j k v):GoneB R R0 a j/\∃x,was[j]? =some x/\x∈was/\∃y,turnI L x=some y/\y∈L/\y.k=k/\y.v=v:=by
 obtain⟨e,hee,h1,h2⟩:=h
 rw[if_pos rfl] at h2
 obtain⟨hg,h3⟩:=h2
 obtain⟨x,hx,hxm,e1,e2⟩:=h0.nth hee
 have hem:e∈R0:=List.mem_reverse.1 (List.mem_of_getElem? hee)
 obtain⟨o1,o2,_,o4⟩:=hR0 e hem
 refine⟨hg,x,hx,hxm, ?_⟩
 by_cases ho:e.own=true
 ·rw[if_pos ho] at h3
  obtain⟨f,hf,rfl,rfl⟩:=h3
  exact turn_own hL hR (e1 ▸ o1) (e1 ▸ o2) (e1 ▸ hf)
 ·rw[if_neg ho] at h3
  obtain⟨rfl,rfl⟩:=h3
  obtain⟨y,q1,q2,q3,q4⟩:=turn_not he hL hxm (by
   rw[e1,<-o4]
   exact Bool.eq_false_iff.2 ho)
  exact⟨y,q1,q2,q3.trans e1,q4.trans e2⟩
end
theorem allY_told{σ:Type}{R0:List En}{rs:σ->List En}{st:σ}{pre:List Hn}{x:Hn}{Hd:Nat->Prop}{A:World}(h:AllY R0 st pre x Hd A):Told false (rs st) R0 pre.length pre.length x.k x.v:=by
 obtain⟨⟨e,he,h1,h2⟩,_⟩:=h
 exact⟨e,he,Nat.le_refl _,by rw[if_neg (by simp)];exact⟨rfl,h1,h2⟩⟩
theorem walkY_told{σ:Type}{R0:List En}{rs:σ->List En}{st:σ}{pre:List Wn}{x:Wn}{Hd:Nat->Prop}{A:World}(h:WalkY rs R0 st pre x Hd A):Told true (rs st) R0 (nx pre) x.j x.h.k x.h.v:=by
 obtain⟨⟨e,he,h1⟩,h2,h3,_⟩:=h
 exact⟨e,he,h2,by rw[if_pos rfl];exact⟨h3,h1⟩⟩
end Go.Proofs.YtlhfickniegooaaDoor
