/-
   Written by an AI agent.
-/
import Derived.Test.YtbjegfpfmnleeaaGreatDoorPk02
import Derived.Deep.Quiet
import Derived.StillTail
import Derived.Orders
import Derived.TacticsIn
import Derived.OrdersIn
import Derived.LoopIn
import Derived.Deep.RegionHeld3
namespace Go.Proofs.YtbjegfpfmnleeaaGreatDoor
open Go.RowKit
variable {df:List Deferred}
set_option maxRecDepth 100000
def rg(P:Program)(Q:Exit->Act->World->Prop)(a:Act)(w:World):Code->Prop
 | .region _ ops false=>wpList P ops Q ops.toList a w
 | .region _ ops true=>P.follows .mixedOrders=true/\∃Q',(∀e a w,Q' e a w->Q e a w)/\wpAny P .any ops Q' ops.size (Array.replicate ops.size false) a {w with drawn:=w.drawn+1}
 | _=>False
theorem Wv{P:Program}{Q:Exit->Act->World->Prop}{a:Act}{w:World}{c:Code}(h:rg P Q a w c):c.wp P Q a w:=by
 cases c with
 | region id ops d=>
  cases d with
  | false=>exact wp_region_list h
  | true=>
   obtain⟨hm,Q',hq,h⟩:=h
   exact Code.wp_mono hq (wp_region_any hm h)
 | _=>exact h.elim
def ndB(c:Code):Bool:=match c with
 | .region _ ops _=>ops.toList.all fun o=>match o.op with
  | .defer _=>false
  | _=>true
 | _=>true
abbrev S8(l:Nat):Fence:=Fence.wide.inRound l
theorem Od{P:Program}{l n:Nat}{o:Oper}{a:Act}{w:World}{K:Act->World->Prop}{Q:Exit->Act->World->Prop}(hn: ∀c,o.op≠.defer c)(h:o.wp P a w K Q):o.wpIn (S8 l) n P a w K Q:=by
 refine⟨fun _ _=>trivial, ?_⟩
 rw[Oper.semAt_eq _ _ _ hn]
 unfold Oper.wp at h
 generalize (execOp a.eval o).run P w=r at h ⊢
 cases r with
 | ok x w'=>
  cases x with
  | value v=>exact h
  | skip=>exact h
  | «defer» d=>exact h
  | enter f args=>exact⟨(fun e=>by cases e),callsIn_wide.2 h⟩
  | row row args=>exact⟨(fun e=>by cases e),fun c cs _=>let⟨v,w',r,s⟩:=h c cs;⟨v,w',r,stepsIn_wide.2 s⟩⟩
  | _=>exact h.elim
 | halt x w'=>cases x<;>exact h
theorem Af{P:Program}{l n:Nat}{ops:Array Oper}{Q:Exit->Act->World->Prop}(ho: ¬LetsOut Q): ∀(r:List Oper) (a:Act) (w:World),(∀o∈r,∀c,o.op≠.defer c)->wpList P ops Q r a w->wpListIn (S8 l) n P ops Q r a w
 | [],_,_,_,h=>h
 | o::r,a,w,hn,h=>by
  unfold wpList at h
  unfold wpListIn
  split
  ·rename_i hw
   rw[if_pos hw] at h
   rcases h with h | h
   ·exact Oper.wpIn_mono (fun a w h=>Af ho r a w (fun o ho=>hn o (List.mem_cons_of_mem _ ho)) h) (Od (hn o List.mem_cons_self) h)
   ·exact absurd h.2 ho
  ·rename_i hw
   rw[if_neg hw] at h
   exact⟨fun _ _=>trivial,Af ho r _ w (fun o ho=>hn o (List.mem_cons_of_mem _ ho)) h⟩
theorem Y6{P:Program}{md:Region.Mode}{l n:Nat}{ops:Array Oper}{Q:Exit->Act->World->Prop}(ho: ¬LetsOut Q)(hn: ∀o∈ops.toList,∀c,o.op≠.defer c): ∀(fuel:Nat) (listed:Array Bool) (a:Act) (w:World),wpAny P md ops Q fuel listed a w->wpAnyIn (S8 l) n P md ops Q fuel listed a w
 | 0,_,_,_,h=>h
 | fuel+1,listed,a,w,h=>by
  refine⟨h.1,fun i hi=> ?_⟩
  have h:=h.2 i hi
  unfold wpOp at h
  unfold wpOpIn
  split
  ·rename_i e
   rw[e] at h
   exact Y6 ho hn fuel _ _ _ h
  ·rename_i o e
   rw[e] at h
   have hm:o∈ops.toList:=by
    obtain⟨h1,h2⟩:=Array.getElem?_eq_some_iff.1 e
    rw[<-h2]
    simp
   simp only at h
   split
   ·rename_i hw
    rw[if_pos hw] at h
    rcases h with h | h
    ·exact Oper.wpIn_mono (fun a w h=>Y6 ho hn fuel _ a w h) (Od (hn o hm) h)
    ·exact absurd h.2 ho
   ·rename_i hw
    rw[if_neg hw] at h
    exact⟨fun _ _=>trivial,Y6 ho hn fuel _ _ _ h⟩
theorem Rc{P:Program}{l n:Nat}{Q:Exit->Act->World->Prop}{a:Act}{w:World}{c:Code}(h:rg P Q a w c)(hn:ndB c=true)(ho: ¬LetsOut Q):c.wpIn (S8 l) n P Q a w:=by
 cases c with
 | region id ops d=>
  have hn': ∀o∈ops.toList,∀c,o.op≠.defer c:=fun o hm c e=>by
   have:=List.all_eq_true.1 hn o hm
   rw[e] at this
   cases this
  cases d with
  | false=>exact wpIn_region_list (Af ho _ a w hn' h)
  | true=>
   obtain⟨hm,Q',hq,h⟩:=h
   exact wpIn_mono (wpIn_region_any hm (Y6 (fun⟨a,w,h⟩=>ho ⟨a,w,hq _ _ _ h⟩) hn' _ _ _ _ h)) hq
 | _=>exact h.elim
theorem Oe{P:Program}{C:World->Prop}{id:Nat}{ops:Array Oper}{Q:Exit->Act->World->Prop}{a:Act}{w:World}(hm:P.follows .mixedOrders=true)(hB:Region.lexB .any ops=true)(hC:C {w with drawn:=w.drawn+1})
  (h:wpQuiet P ops C (fun a'=> ∀w',C w'->Q .normal a' w') ops.toList a):rg P Q a w (.region id ops true):=by
 simp only[Region.lexB,Bool.and_eq_true] at hB
 refine⟨hm,Q,fun _ _ _ h=>h,wpAny_of_quiet (Q:=fun a'=> ∀w',C w'->Q .normal a' w') (fun _ w' hw' h=>h w' hw') _ _ _ _ hC ?_⟩
 have:=wpAnyQ_lex (C:=C) (md:=.any) hB.1 ops.toList 0 (Array.replicate ops.size false) a (by simp) (by simpa using hB.2) h
 simpa using this
theorem Bp9{P:Program}{id:Nat}{Q:Exit->Act->World->Prop}{a:Act}{w:World}{l:List Oper}(n:Nat)(hm:P.follows .mixedOrders=true)(hB:Region.lexTailB .any l.toArray n=true)
  (h:wpStill P l.toArray {w with drawn:=w.drawn+1} (fun a'=>wpList P l.toArray Q (l.drop n) a' {w with drawn:=w.drawn+1}) (l.take n) a):rg P Q a w (.region id l.toArray true):=by
 simp only[Region.lexTailB,Bool.and_eq_true,decide_eq_true_eq] at hB
 obtain⟨⟨⟨⟨hsel,hn⟩,hs⟩,hc⟩,hlex⟩:=hB
 have hn':n<l.length:=by simpa using hn
 have htl:(l.take n).length=n:=by simp;omega
 have hdl:(l.drop n).length=l.toArray.size-n:=by simp
 have inv0:HeadInv .any l.toArray n (Array.replicate l.toArray.size false):=
  ⟨by simp,fun j oj _ hl=>(by rw[getD_replicate_false] at hl;cases hl),fun t _ ht=>getD_in (by simpa using ht) (getD_replicate_false _ _)⟩
 have H:=wpAnyL_lex (md:=.any) (g:=l.toArray.size-n) hsel hs hc hn (l.take n) 0 _ a (fun j hj=>by
  have hj':j<n:=by rw[htl] at hj;exact hj
  simp[hj']) (by simpa using htl) inv0 (by rw[htl];exact hlex) h
 refine⟨hm,Q,fun _ _ _ h=>h, ?_⟩
 have:=wpAny_of_head (Q':=Q) (g:=l.toArray.size-n) (fun listed a' hL=>by
  have:=wpAny_of_seq (md:=.any) (Q':=Q) (l.drop n) n listed a' {w with drawn:=w.drawn+1} (fun j=>by simp[List.getElem?_drop]) (by rw[hdl];exact hL.1) hL.2
  rwa [hdl] at this) _ _ _ H
 rw[htl,show n+(l.toArray.size-n)=l.toArray.size by omega] at this
 exact this
def rho(l:List (Nat×Value)):Operand->Value
 | .tmp t=>(l.lookup t).getD undef
 | .const v=>v
 | .global g=>.pointer (some ⟨g,0,none⟩)
 | .func f=>.func (.func f) #[] #[]
def knO(l:List (Nat×Value)):Operand->Bool
 | .tmp t=>(l.lookup t).isSome
 | _=>true
def Agr(a:Act)(l:List (Nat×Value)):Prop:= ∀k v,l.lookup k=some v->F9 a k=v
theorem Agr.rho{a:Act}{l:List (Nat×Value)}(h:Agr a l){x:Operand}(hx:knO l x=true):a.eval x=rho l x:=by
 cases x with
 | tmp t=>
  unfold knO at hx
  obtain⟨v,hv⟩:=Option.isSome_iff_exists.1 hx
  have:=h t v hv
  unfold F9 at this
  simp only[Act.eval,Proofs.YtbjegfpfmnleeaaGreatDoor.rho,hv,Option.getD_some]
  exact this
 | const v=>rfl
 | global g=>rfl
 | func f=>rfl
inductive Giv where
 | bit (b:Bool)
 | ari
 | raw
 | bin (v:Value)
 | gen (v:Value) (w:World)
 | val (v:Value)
 | wld (w:World)
 | sto
 | vw (v:Value) (w:World)
 | ret (v:Value) (C:World->Prop)
 | con (C:Value->World->Prop)
 | con2 (C:Value->Value->World->Prop)
 | con3 (C:Value->Value->Value->World->Prop)
 | app (C:Value->World->Prop)
 | ex (α:Type) (f:α->Value) (C:α->World->Prop)
 | exw (α:Type) (f:α->Value) (C:World->α->World->Prop)
 | inv (i:FuncId) (r:Value) (α:Type) (f:α->Value) (C:World->α->World->Prop)
 | vx (α:Type) (f:α->Value) (C:α->World->Prop)
 | apx (α:Type) (f:α->Value) (C:α->World->Prop)
 | apxw (α:Type) (f:α->Value) (C:World->α->World->Prop)
def Cd5(op:BinOp)(x y:Value):Option Bool:=match op,x,y with
 | .lss,.int k a,.int k' b=>if k=k' then some (decide (a<b)) else none
 | .leq,.int k a,.int k' b=>if k=k' then some (decide (a<=b)) else none
 | .gtr,.int k a,.int k' b=>if k=k' then some (decide (b<a)) else none
 | .geq,.int k a,.int k' b=>if k=k' then some (decide (b<=a)) else none
 | .eql,.int k a,.int k' b=>if k=k' then some (decide (a=b)) else none
 | .neq,.int k a,.int k' b=>if k=k' then some (decide (a≠b)) else none
 | .eql,.string a,.string b=>some (decide (a=b))
 | .neq,.string a,.string b=>some (decide (a≠b))
 | _,_,_=>none
def Cd6(op:BinOp)(x y:Value):Option (IntKind×Int):=match op,x,y with
 | .add,.int k a,.int k' b=>if k=k' then some (k,a+b) else none
 | .sub,.int k a,.int k' b=>if k=k' then some (k,a-b) else none
 | .mul,.int k a,.int k' b=>if k=k' then some (k,a*b) else none
 | _,_,_=>none
def inK(k:IntKind)(z:Int):Prop:=k.min<=z/\z<=k.max
def Rd(P:Program)(l:List (Nat×Value))(o:Oper):Option Value:=match o.op with
 | .move x=>some (rho l x)
 | .assign x=>some (rho l x)
 | .pick c a b=>match rho l c with
  | .bool true=>some (rho l a)
  | .bool false=>some (rho l b)
  | _=>none
 | .unOp .not _ x=>match rho l x with
  | .bool b=>some (.bool (!b))
  | _=>none
 | .extract x i=>match rho l x with
  | .tuple vs=>vs[i]?
  | _=>none
 | .call ⟨.builtin .len,⟨[x]⟩,⟨[t]⟩⟩=>match P.underlying t,rho l x with
  | some .string,.string s=>some (.int .i64 s.size)
  | some (.slice _),.slice _ n _=>some (.int .i64 n)
  | _,_=>none
 | .fieldAddr s x k=>match P.underlying s,rho l x with
  | some (.struct fs),.pointer (some a)=>match fs[k]? with
   | some f=>match P.info? f.type with
    | some i=>match i.size with
     | 0=>none
     | _+1=>some (.pointer (some (a.add f.offset)))
    | none=>none
   | none=>none
  | _,_=>none
 | .makeFunc fn f c=>some (.func fn (List.toArray (f.toList.map (rho l))) (List.toArray (c.toList.map (rho l))))
 | .nilCheck x=>match rho l x with
  | .pointer (some a)=>some (.pointer (some a))
  | _=>none
 | _=>none
def Hc(P:Program)(f:FuncId):Bool:=match P.funcs[f]? with
 | some fn=>fn.body.isSome&& !(fn.name=="runtime.NumGoroutine")
 | none=>false
def Eu6(r:Result Next)(k:Value->World->Prop):Prop:=match r with
 | .ok (.value v) w=>k v w
 | .ok .skip w=>k undef w
 | _=>False
def Ww(l:List (Nat×Value)):Callee->Option FuncId
 | .value f=>match rho l f with
  | .func (.func i) ⟨[]⟩ ⟨[]⟩=>some i
  | _=>none
 | _=>none
def Ak6:Op->Bool
 | .select .. =>true
 | _=>false
def Cv(P:Program)(l:List (Nat×Value))(w:World)(c:Call)(R:Ending->World->Prop):Prop:=match Ww l c.callee with
 | some i=>match Hc P i with
  | true=>Calls P i (List.toArray (c.args.toList.map (rho l))) w R
  | false=>False
 | none=>False
def evK(P:Program)(l:List (Nat×Value))(w:World)(o:Oper)(k:Value->World->List Giv->Prop):Op->List Giv->Prop
 | .binOp op _ x y _,.bit b::g=>match Cd5 op (rho l x) (rho l y) with
  | some c=>c=b/\k (.bool b) w g
  | none=>False
 | .binOp op t x y _,.bin v::g=>(do eqGuard op t x y (rho l x) (rho l y);binOp op t (rho l x) (rho l y):Sem Value).run P w=.ok v w/\k v w g
 | .index t x i,.val v::g=>(Instr.index t (rho l x) (rho l i)).run P w=.ok v w/\k v w g
 | .load t x,.val v::g=>(Instr.loadAt t (rho l x)).run P w=.ok v w/\k v w g
 | .load t x,.vx α f C::g=>(∃z:α,(Instr.loadAt t (rho l x)).run P w=.ok (f z) w/\C z w)/\∀z,C z w->k (f z) w g
 | .indexAddr t x i,.val v::g=>(Instr.indexAt t (rho l x) (rho l i)).run P w=.ok v w/\k v w g
 | .slice t x a b c,.val v::g=>(Instr.sliceAt t (rho l x) (a.map (rho l)) (b.map (rho l)) (c.map (rho l))).run P w=.ok v w/\k v w g
 | .convert s d x,.val v::g=>(convert s d (rho l x)).run P w=.ok v w/\k v w g
 | .convert s d x,.vw v w'::g=>(convert s d (rho l x)).run P w=.ok v w'/\k v w' g
 | .typeAssert x s d ok,.val v::g=>(Instr.typeAssert (rho l x) s d ok).run P w=.ok v w/\k v w g
 | .unOp op _ x,.val v::g=>(Op.unary op (rho l x)).run P w=.ok v w/\k v w g
 | .lookup t m x c,.val v::g=>(Instr.lookup t (rho l m) (rho l x) c).run P w=.ok v w/\k v w g
 | .mapUpdate t m x y,.wld w'::g=>(Instr.mapUpdate t (rho l m) (rho l x) (rho l y)).run P w=.ok () w'/\k undef w' g
 | .store t x y,.wld w'::g=>(Instr.storeAt t (rho l x) (rho l y)).run P w=.ok () w'/\k undef w' g
 | .store t x y,.sto::g=>match rho l x with
  | .pointer (some ⟨b,o,none⟩)=>(Instr.storeAt t (rho l x) (rho l y)).run P w=.ok () (w.setCells b o (rho l y).cells.toList)/\k undef (w.setCells b o (rho l y).cells.toList) g
  | _=>False
 | .call c,.app C::g=>match c.callee with
  | .builtin .append=>(∀ty,∃v w',(Builtin.append_ c.argTypes ty (List.toArray (c.args.toList.map (rho l)))).run P w=.ok v w'/\C v w')/\∀v w',C v w'->k v w' g
  | _=>False
 | .call c,.ret v C::g=>Cv P l w c (fun e w'=>e=.returned v/\C w')/\∀w',C w'->k v w' g
 | .call c,.con C::g=>Cv P l w c (fun e w'=> ∃v,e=.returned v/\C v w')/\∀v w',C v w'->k v w' g
 | .call c,.con2 C::g=>Cv P l w c (fun e w'=> ∃x y,e=.returned (.tuple #[x,y])/\C x y w')/\∀x y w',C x y w'->k (.tuple #[x,y]) w' g
 | .call c,.con3 C::g=>Cv P l w c (fun e w'=> ∃x y z,e=.returned (.tuple #[x,y,z])/\C x y z w')/\∀x y z w',C x y z w'->k (.tuple #[x,y,z]) w' g
 | .call c,.ex α f C::g=>Cv P l w c (fun e w'=> ∃x:α,e=.returned (f x)/\C x w')/\∀x w',C x w'->k (f x) w' g
 | .call c,.exw α f C::g=>Cv P l w c (fun e w'=> ∃x:α,e=.returned (f x)/\C w x w')/\∀x w',C w x w'->k (f x) w' g
 | .call c,.inv i r α f C::g=>match c.callee with
  | .invoke rc name=>match rho l rc with
   | .iface t x=>match Hc P i with
    | true=>(method (P.types.size+Made.depth) t x name).run P w=.ok (i,r) w/\Calls P i (List.toArray (r::c.args.toList.map (rho l))) w (fun e w'=> ∃x:α,e=.returned (f x)/\C w x w')/\∀x w',C w x w'->k (f x) w' g
    | false=>False
   | _=>False
  | _=>False
 | .call c,.apx α f C::g=>match c.callee with
  | .builtin .append=>(∀ty,∃x w',(Builtin.append_ c.argTypes ty (List.toArray (c.args.toList.map (rho l)))).run P w=.ok (f x) w'/\C x w')/\∀x w',C x w'->k (f x) w' g
  | _=>False
 | .call c,.apxw α f C::g=>match c.callee with
  | .builtin .append=>(∀ty,∃x w',(Builtin.append_ c.argTypes ty (List.toArray (c.args.toList.map (rho l)))).run P w=.ok (f x) w'/\C w x w')/\∀x w',C w x w'->k (f x) w' g
  | _=>False
 | .makeSlice t n c,.vw v w'::g=>(Instr.makeSlice t (rho l n) (rho l c)).run P w=.ok v w'/\k v w' g
 | .call c,.wld w'::g=>match c.callee with
  | .builtin .clear=>(∀ty,∃v,(Builtin.clear_ c.argTypes ty (List.toArray (c.args.toList.map (rho l)))).run P w=.ok v w')/\∀v,k v w' g
  | .builtin .delete=>(∀ty,∃v,(Builtin.delete_ c.argTypes ty (List.toArray (c.args.toList.map (rho l)))).run P w=.ok v w')/\∀v,k v w' g
  | _=>False
 | .binOp op _ x y _,.ari::g=>match Cd6 op (rho l x) (rho l y) with
  | some z=>inK z.1 z.2/\k (.int z.1 z.2) w g
  | none=>match op,rho l x,rho l y with
   | .add,.string a,.string b=>(a.size+b.size<=9223372036854775807)/\k (.string (a++b)) w g
   | _,_,_=>False
 | _,.gen v w'::g=>(execOp (rho l) o).run P w=.ok (.value v) w'/\k v w' g
 | _,.raw::g=>Eu6 ((execOp (rho l) o).run P w) (fun v w'=>k v w' g)
 | _,_=>False
def Ak7(P:Program)(l:List (Nat×Value))(w:World)(o:Oper)(g:List Giv)(k:Value->World->List Giv->Prop):Prop:=
 match Ak6 o.op,o.op.operands.toList.all (knO l) with
 | false,true=>match Rd P l o with
  | some v=>k v w g
  | none=>evK P l w o k o.op g
 | _,_=>False
theorem Cw{k:IntKind}{z:Int}(h:inK k z):k.wrap z=z:=by
 obtain⟨h1,h2⟩:=h
 unfold IntKind.min at h1
 unfold IntKind.max at h2
 unfold IntKind.wrap
 cases k<;>simp[IntKind.signed,IntKind.bits] at h1 h2 ⊢ <;>(try split)<;>omega
theorem Bq0{P:Program}{o:Oper}{a:Act}{Q:Exit->Act->World->Prop}{N:Act->World->Prop}{r:Result Next}{k:Value->World->Prop}(h:Eu6 r k)(hk: ∀v w',k v w'->N (a.put o.dst v) w'):o.upon P a N Q r:=by
 cases r with
 | ok n w'=>
  cases n with
  | value v=>exact hk _ _ h
  | skip=>exact hk _ _ h
  | _=>exact h.elim
 | halt x w'=>exact h.elim
theorem Wx(a b:ByteArray):(a.toList==b.toList)=decide (a=b):=by
 have e:a.toList=b.toList↔a=b:=⟨fun h=>by
  obtain⟨⟨a⟩⟩:=a
  obtain⟨⟨b⟩⟩:=b
  simp only[Lib.toList_data] at h
  simpa using h,fun h=>by rw[h]⟩
 by_cases h:a=b
 ·subst h;simp
 ·have h': ¬a.toList=b.toList:=fun g=>h (e.1 g)
  rw[decide_eq_false h]
  exact beq_false_of_ne h'
theorem Cx{P:Program}{w:World}{op:BinOp}{t t':TypeId}{x y:Operand}{ρ:Operand->Value}{c:Bool}{o:Oper}(ho:o.op=.binOp op t x y t')(h:Cd5 op (ρ x) (ρ y)=some c):
    (execOp ρ o).run P w=.ok (.value (.bool c)) w:=by
  unfold execOp
  rw[ho]
  simp only
  unfold Cd5 at h
  generalize ρ x=vx at*
  generalize ρ y=vy at*
  split at h
  all_goals first
    | (split at h
       · rename_i hk
         subst hk
         injection h with h
         subst h
         simp[eqGuard,binOp,Op.intCmp]
         try rfl
       · cases h)
    | (injection h with h
       subst h
       simp[eqGuard,binOp,Op.stringOp,Wx])
    | cases h
theorem Cy{P:Program}{w:World}{op:BinOp}{t t':TypeId}{x y:Operand}{ρ:Operand->Value}{z:IntKind×Int}{o:Oper}(ho:o.op=.binOp op t x y t')(h:Cd6 op (ρ x) (ρ y)=some z)(hz:inK z.1 z.2):
    (execOp ρ o).run P w=.ok (.value (.int z.1 z.2)) w:=by
  unfold execOp
  rw[ho]
  simp only
  unfold Cd6 at h
  generalize ρ x=vx at*
  generalize ρ y=vy at*
  split at h
  all_goals first
    | (split at h
       · rename_i hk
         subst hk
         injection h with h
         subst h
         simp[eqGuard,binOp,Op.intArith,Cw hz]
       · cases h)
    | cases h
theorem Y7{P:Program}{w:World}{l:List (Nat×Value)}{o:Oper}{v:Value}(h:Rd P l o=some v):(execOp (rho l) o).run P w=.ok (.value v) w:=by
 unfold Rd at h
 split at h
 ·rename_i x ho;injection h with h;subst h;simp[execOp,ho]
 ·rename_i x ho;injection h with h;subst h;simp[execOp,ho]
 ·rename_i c a b ho
  split at h
  ·rename_i hc;injection h with h;subst h;simp[execOp,ho,hc,asBool]
  ·rename_i hc;injection h with h;subst h;simp[execOp,ho,hc,asBool]
  ·cases h
 ·rename_i x y ho
  split at h
  ·rename_i hc;injection h with h;subst h;simp[execOp,ho,hc,Op.unary]
  ·cases h
 ·rename_i x i ho
  split at h
  ·rename_i vs hc;simp[execOp,ho,hc,Instr.extract,h]
  ·cases h
 ·rename_i x t ho
  split at h
  ·rename_i s ht hx;injection h with h;subst h;simp[execOp,ho,resolve,invoke,builtin,Builtin.len_,ht,hx,goInt,run_underlying]
  ·rename_i e d n c ht hx;injection h with h;subst h;simp[execOp,ho,resolve,invoke,builtin,Builtin.len_,ht,hx,goInt,run_underlying]
  ·cases h
 ·rename_i s x k ho
  split at h
  ·rename_i fs a hu hx
   split at h
   ·rename_i f hf
    split at h
    ·rename_i i hi
     split at h
     ·cases h
     ·rename_i z hz
      injection h with h
      subst h
      simp[execOp,ho,Instr.fieldAt,run_underlying hu,hf,hx,Instr.sureAddr,fieldPlace,sizeOf,typeInfo,hi,hz]
    ·cases h
   ·cases h
  ·cases h
 ·rename_i fn f c ho;injection h with h;subst h;simp[execOp,ho,Instr.makeFunc,<-Array.toList_map]
 ·rename_i x ho
  split at h
  ·rename_i a ha;injection h with h;subst h;simp[execOp,ho,ha]
  ·cases h
 ·cases h
theorem Bv{P:Program}{w:World}{l:List (Nat×Value)}{o:Oper}{c:Call}{R:Ending->World->Prop}(ho:o.op=.call c)(h:Cv P l w c R):
  ∃i,(execOp (rho l) o).run P w=.ok (.enter i (c.args.map (rho l))) w/\Calls P i (c.args.map (rho l)) w R:=by
 unfold Cv at h
 split at h
 ·rename_i i hi
  split at h
  ·rename_i he
   rw[show List.toArray (c.args.toList.map (rho l))=c.args.map (rho l) by rw[<-Array.toList_map]] at h
   refine⟨i, ?_,h⟩
   obtain⟨callee,args,tys⟩:=c
   unfold Ww at hi
   split at hi
   ·rename_i f hf
    simp only at hf
    subst hf
    split at hi
    ·rename_i j hj
     injection hi with hi
     subst hi
     unfold Hc at he
     split at he
     ·rename_i fn hfn
      simp only[Bool.and_eq_true,Bool.not_eq_true',Option.isSome_iff_ne_none] at he
      have hn: ¬fn.name="runtime.NumGoroutine":=by simpa using he.2
      simp[execOp,ho,resolve,hj,Deferred.ofValue,invoke,callFunc,hfn,he.1,hn]
     ·cases he
    ·cases hi
   ·cases hi
  ·exact h.elim
 ·exact h.elim
theorem ap0(v:Value)(xs:Array Value):(#[v]++xs)[0]? =some v:=by simp[Array.getElem?_append]
theorem ap1(v:Value)(xs:Array Value):(#[v]++xs).extract 1 (#[v]++xs).size=xs:=by
 apply Array.toList_inj.1
 simp
theorem V8{P:Program}{l:List (Nat×Value)}{w:World}{o:Oper}{g:List Giv}{k:Value->World->List Giv->Prop}{a:Act}{Q:Exit->Act->World->Prop}{N:Act->World->Prop}(ha:Agr a l)(h:Ak7 P l w o g k)
  (hk: ∀v w' g',k v w' g'->N (a.put o.dst v) w'):o.wp P a w N Q:=by
 unfold Ak7 at h
 split at h
 ·rename_i hs hkn
  have hsel: ∀cs b,o.op≠.select cs b:=fun cs b e=>by rw[e] at hs;cases hs
  have he:execOp a.eval o=execOp (rho l) o:=execOp_congr o hsel fun x hx=>ha.rho (List.all_eq_true.1 hkn x (by simpa using hx))
  unfold Oper.wp
  rw[he]
  have hval: ∀v w' g',(execOp (rho l) o).run P w=.ok (.value v) w'->k v w' g'->o.upon P a N Q ((execOp (rho l) o).run P w):=fun v w' g' hr hh=>by
   rw[hr]
   exact hk v w' g' hh
  have hcall: ∀(c:Call) (R:Ending->World->Prop),o.op=.call c->Cv P l w c R->(∀e w',R e w'->∃v,e=.returned v/\∃g',k v w' g')->o.upon P a N Q ((execOp (rho l) o).run P w):=fun c R ho hc hR=>by
   obtain⟨i,hr,hC⟩:=Bv ho hc
   rw[hr]
   refine hC.mono fun e w' hh=> ?_
   obtain⟨v,rfl,g',hg⟩:=hR e w' hh
   exact hk v w' g' hg
  split at h
  ·rename_i v hv
   exact hval v w g (Y7 hv) h
  ·generalize ho:o.op=op at h
   unfold evK at h
   split at h
   ·split at h
    ·rename_i c hc
     obtain⟨rfl,h⟩:=h
     exact hval _ w _ (Cx ho hc) h
    ·exact h.elim
   ·rename_i op' t1 x1 y1 t2 v1 g1
    have h1:=h.1
    exact hval _ w _ (by
     have:execOp (rho l) o=(do pure (.value (<-(do eqGuard op' t1 x1 y1 (rho l x1) (rho l y1);binOp op' t1 (rho l x1) (rho l y1):Sem Value))):Sem Next):=by unfold execOp;rw[ho]
     rw[this]
     rw[Sem.run_bind,h1];rfl) h.2
   ·exact hval _ w _ (by simp[execOp,ho,h.1]) h.2
   ·exact hval _ w _ (by simp[execOp,ho,h.1]) h.2
   ·obtain⟨⟨y,hr,hC⟩,hh⟩:=h
    exact hval _ w _ (by simp[execOp,ho,hr]) (hh y hC)
   ·exact hval _ w _ (by simp[execOp,ho,h.1]) h.2
   ·exact hval _ w _ (by simp[execOp,ho,h.1]) h.2
   ·exact hval _ w _ (by simp[execOp,ho,h.1]) h.2
   ·exact hval _ _ _ (by simp[execOp,ho,h.1]) h.2
   ·exact hval _ w _ (by simp[execOp,ho,h.1]) h.2
   ·exact hval _ w _ (by simp[execOp,ho,h.1]) h.2
   ·exact hval _ w _ (by simp[execOp,ho,h.1]) h.2
   ·rename_i w1 g1
    have hr:(execOp (rho l) o).run P w=.ok .skip w1:=by simp[execOp,ho,h.1]
    rw[hr]
    exact hk undef w1 _ h.2
   ·rename_i w1 g1
    have hr:(execOp (rho l) o).run P w=.ok .skip w1:=by simp[execOp,ho,h.1]
    rw[hr]
    exact hk undef w1 _ h.2
   ·rename_i t1 x1 y1 g1
    split at h
    ·rename_i b1 o1 hp
     have h1:=h.1
     try rw[hp] at h1
     have hr:(execOp (rho l) o).run P w=.ok .skip (w.setCells b1 o1 (rho l y1).cells.toList):=by simp[execOp,ho,hp,h1]
     rw[hr]
     exact hk undef _ _ h.2
    ·exact h.elim
   ·rename_i c C1 g1
    split at h
    ·rename_i hb
     obtain⟨v,w',hr,hC⟩:=h.1 o.type
     rw[show List.toArray (c.args.toList.map (rho l))=c.args.map (rho l) by rw[<-Array.toList_map]] at hr
     exact hval v w' _ (by simp[execOp,ho,resolve,hb,invoke,builtin,hr]) (h.2 v w' hC)
    ·exact h.elim
   ·exact hcall _ _ ho h.1 fun e w' hh=>⟨_,hh.1,_,h.2 _ hh.2⟩
   ·exact hcall _ _ ho h.1 fun e w' ⟨v,hh1,hh2⟩=>⟨_,hh1,_,h.2 _ _ hh2⟩
   ·exact hcall _ _ ho h.1 fun e w' ⟨x,y,hh1,hh2⟩=>⟨_,hh1,_,h.2 _ _ _ hh2⟩
   ·exact hcall _ _ ho h.1 fun e w' ⟨x,y,z,hh1,hh2⟩=>⟨_,hh1,_,h.2 _ _ _ _ hh2⟩
   ·exact hcall _ _ ho h.1 fun e w' ⟨x,hh1,hh2⟩=>⟨_,hh1,_,h.2 _ _ hh2⟩
   ·exact hcall _ _ ho h.1 fun e w' ⟨x,hh1,hh2⟩=>⟨_,hh1,_,h.2 _ _ hh2⟩
   ·rename_i c i1 r1 α1 f1 C1 g1
    split at h
    ·rename_i rc nm hb
     split at h
     ·rename_i t1 x1 hx
      split at h
      ·rename_i he
       rw[show List.toArray (r1::c.args.toList.map (rho l))=#[r1]++c.args.map (rho l) by rw[<-Array.toList_map];simp] at h
       have hr:(execOp (rho l) o).run P w=.ok (.enter i1 (#[r1]++c.args.map (rho l))) w:=by
        unfold Hc at he
        split at he
        ·rename_i fn hfn
         simp only[Bool.and_eq_true,Bool.not_eq_true',Option.isSome_iff_ne_none] at he
         have hn: ¬fn.name="runtime.NumGoroutine":=by simpa using he.2
         simp only[execOp,ho,resolve,hb,hx,pure_bind,invoke,ap0,ap1]
         simp[callMethod,h.1,callFunc,hfn,he.1,hn]
        ·cases he
       rw[hr]
       refine h.2.1.mono fun e w' ⟨x,hh1,hh2⟩=> ?_
       subst hh1
       exact hk _ _ _ (h.2.2 _ _ hh2)
      ·exact h.elim
     ·exact h.elim
    ·exact h.elim
   ·rename_i c α1 f1 C1 g1
    split at h
    ·rename_i hb
     obtain⟨x,w',hr,hC⟩:=h.1 o.type
     rw[show List.toArray (c.args.toList.map (rho l))=c.args.map (rho l) by rw[<-Array.toList_map]] at hr
     exact hval _ w' _ (by simp[execOp,ho,resolve,hb,invoke,builtin,hr]) (h.2 x w' hC)
    ·exact h.elim
   ·rename_i c α1 f1 C1 g1
    split at h
    ·rename_i hb
     obtain⟨x,w',hr,hC⟩:=h.1 o.type
     rw[show List.toArray (c.args.toList.map (rho l))=c.args.map (rho l) by rw[<-Array.toList_map]] at hr
     exact hval _ w' _ (by simp[execOp,ho,resolve,hb,invoke,builtin,hr]) (h.2 x w' hC)
    ·exact h.elim
   ·exact hval _ _ _ (by simp[execOp,ho,h.1]) h.2
   ·rename_i c w1 g1
    split at h
    ·rename_i hb
     obtain⟨v,hr⟩:=h.1 o.type
     rw[show List.toArray (c.args.toList.map (rho l))=c.args.map (rho l) by rw[<-Array.toList_map]] at hr
     exact hval v _ _ (by simp[execOp,ho,resolve,hb,invoke,builtin,hr]) (h.2 v)
    ·rename_i hb
     obtain⟨v,hr⟩:=h.1 o.type
     rw[show List.toArray (c.args.toList.map (rho l))=c.args.map (rho l) by rw[<-Array.toList_map]] at hr
     exact hval v _ _ (by simp[execOp,ho,resolve,hb,invoke,builtin,hr]) (h.2 v)
    ·exact h.elim
   ·split at h
    ·rename_i z hz
     exact hval _ w _ (Cy ho hz h.1) h.2
    ·split at h
     ·rename_i a' b' hx hy hn
      refine hval _ w _ ?_ h.2
      have h1:=h.1
      simp[execOp,ho,eqGuard,binOp,hx,hy,Op.stringOp]
      omega
     ·exact h.elim
   ·exact hval _ _ _ h.1 h.2
   ·exact Bq0 h fun v w'=>hk v w' _
   ·exact h.elim
 ·exact h.elim
def gdL(ops:Array Oper)(l:List (Nat×Value))(o:Oper):Option Bool:=match o.guard with
 | none=>some true
 | some (j,want)=>match (ops[j]?).bind (·.dst) with
  | some d=>match l.lookup d with
   | some (.bool b)=>some (b==want)
   | some _=>some false
   | none=>none
  | none=>some false
def Eu(d:Option Nat)(v:Value)(l:List (Nat×Value)):List (Nat×Value):=match d with
 | some d=>(d,v)::l
 | none=>l
def Q2(n:Nat):Option Nat->Bool
 | some d=>decide (d<n)
 | none=>true
def evL(P:Program)(n:Nat)(ops:Array Oper):List Oper->List Giv->List (Nat×Value)->World->(List (Nat×Value)->World->Prop)->Prop
 | [],_,l,w,K=>K l w
 | o::r,g,l,w,K=>match Q2 n o.dst,gdL ops l o with
  | true,some true=>Ak7 P l w o g (fun v w' g'=>evL P n ops r g' (Eu o.dst v l) w' K)
  | true,some false=>evL P n ops r g (Eu o.dst undef l) w K
  | _,_=>False
theorem F7{ops:Array Oper}{l:List (Nat×Value)}{a:Act}{o:Oper}{b:Bool}(ha:Agr a l)(h:gdL ops l o=some b):Region.wanted o (yielded ops a.tmps)=b:=by
 unfold gdL at h
 unfold Region.wanted
 split at h
 ·rename_i hg
  injection h with h
  simp[hg,<-h]
 ·rename_i j want hg
  simp only[hg]
  have key: ∀d,(ops[j]?).bind (·.dst)=some d->∀v,l.lookup d=some v->v≠undef->a.tmps[d]? =some v:=fun d _ v hv hu=>by
   have:=ha d v hv
   unfold F9 at this
   rw[Array.getD_eq_getD_getElem?] at this
   cases he:a.tmps[d]? with
   | none=>rw[he] at this;exact absurd this.symm hu
   | some u=>rw[he] at this;simp at this;rw[this]
  unfold yielded
  split at h
  ·rename_i d hd
   split at h
   ·rename_i b' hb
    injection h with h
    rw[hd,Option.bind_some,key d hd _ hb (by simp[undef])]
    subst h
    simp
   ·rename_i v hb hv
    injection h with h
    subst h
    rw[hd,Option.bind_some]
    by_cases hu:v=undef
    ·subst hu
     have:=ha d _ hv
     unfold F9 at this
     rw[Array.getD_eq_getD_getElem?] at this
     cases he:a.tmps[d]? with
     | none=>rfl
     | some u=>
      rw[he] at this
      simp at this
      subst this
      rfl
    ·rw[key d hd _ hv hu]
     cases v<;>first | rfl | exact absurd rfl (hb _)
   ·cases h
  ·rename_i hd
   injection h with h
   subst h
   rw[hd]
   rfl
theorem L5{a:Act}{n:Nat}{l:List (Nat×Value)}{d:Option Nat}{v:Value}(ha:Agr a l)(hn:a.tmps.size=n)(hd:Q2 n d=true):Agr (a.put d v) (Eu d v l):=by
 cases d with
 | none=>exact ha
 | some d=>
  have hd:d<n:=by simpa[Q2] using hd
  intro k u hk
  simp only[Eu,List.lookup_cons] at hk
  by_cases e:(k==d)=true
  ·have e':k=d:=by simpa using e
   subst e'
   simp at hk
   subst hk
   simp[F9,Act.put,Array.getD,hn,hd]
  ·have e':(k==d)=false:=by simpa using e
   rw[e'] at hk
   have:=ha k u hk
   have hne:d≠k:=fun h=>by subst h;simp at e'
   simp only[F9,Act.put,Array.getD_eq_getD_getElem?] at this ⊢
   rw[Array.getElem?_setIfInBounds_ne hne]
   exact this
theorem F3(a:Act)(d:Option Nat)(v:Value):(a.put d v).tmps.size=a.tmps.size:=by cases d<;>simp[Act.put]
theorem put_defers(a:Act)(d:Option Nat)(v:Value):(a.put d v).defers=a.defers:=by cases d<;>rfl
theorem M0(a:Act)(d:Option Nat)(v:Value)(k:Nat)(h:d≠some k):F9 (a.put d v) k=F9 a k:=by
 cases d with
 | none=>rfl
 | some d=>
  have hne:d≠k:=fun e=>h (by rw[e])
  simp only[F9,Act.put,Array.getD_eq_getD_getElem?]
  rw[Array.getElem?_setIfInBounds_ne hne]
theorem Kf{P:Program}{n:Nat}{ops:Array Oper}{Q:Exit->Act->World->Prop}: ∀(r:List Oper) (g:List Giv) (l:List (Nat×Value)) (w:World) (K:List (Nat×Value)->World->Prop) (a:Act),
  a.tmps.size=n->a.defers=df->Agr a l->evL P n ops r g l w K->
  (∀a' l' w',a'.tmps.size=n->a'.defers=df->Agr a' l'->(∀k,some k∉r.map (·.dst)->F9 a' k=F9 a k)->K l' w'->Q .normal a' w')->wpList P ops Q r a w
 | [],g,l,w,K,a,h1,h2,h3,h,hQ=>hQ a l w h1 h2 h3 (fun _ _=>rfl) h
 | o::r,g,l,w,K,a,h1,h2,h3,h,hQ=>by
  unfold evL at h
  have next: ∀v w' g',Q2 n o.dst=true->evL P n ops r g' (Eu o.dst v l) w' K->wpList P ops Q r (a.put o.dst v) w':=fun v w' g' hd hh=>
   Kf r g' _ w' K (a.put o.dst v) ((F3 _ _ _).trans h1) ((put_defers _ _ _).trans h2) (L5 h3 h1 hd) hh fun a' l' w'' q1 q2 q3 q4 q5=>
    hQ a' l' w'' q1 q2 q3 (fun k hk=>(q4 k (fun hm=>hk (List.mem_cons_of_mem _ hm))).trans (M0 a _ v k fun e=>hk (by rw[List.map_cons,e];exact List.mem_cons_self))) q5
  split at h
  ·rename_i hd hg
   refine wpList_step fun N hN=> ?_
   rw[if_pos (by rw[F7 h3 hg])]
   exact V8 h3 h fun v w' g' hh=>hN _ _ (next v w' g' hd hh)
  ·rename_i hd hg
   refine wpList_step fun N hN=> ?_
   rw[if_neg (by rw[F7 h3 hg];simp)]
   exact hN _ _ (next undef w g hd h)
  ·exact h.elim
def Re(keep:List Nat)(l1 rest:List (Nat×Value)):List (Nat×Value):=match keep with
 | []=>rest
 | k::ks=>match l1.lookup k with
  | some v=>(k,v)::Re ks l1 rest
  | none=>Re ks l1 rest
def A6(ds:List Nat)(l:List (Nat×Value)):List (Nat×Value):=l.filter fun p=> !ds.contains p.1
def Be(ds:List Nat):List Oper->Bool
 | []=>true
 | o::r=>match o.dst with
  | some d=>ds.contains d&&Be ds r
  | none=>Be ds r
theorem I3{ds:List Nat}: ∀{r:List Oper},Be ds r=true->∀k,ds.contains k=false->some k∉r.map (·.dst)
 | [],_,_,_,h=>by simp at h
 | o::r,h,k,hk,hm=>by
  unfold Be at h
  rcases List.mem_cons.1 hm with e | hm
  ·have e:some k=o.dst:=e
   rw[<-e] at h
   simp only[Bool.and_eq_true] at h
   rw[hk] at h
   cases h.1
  ·cases ho:o.dst with
   | none=>rw[ho] at h;exact I3 h k hk hm
   | some d=>
    rw[ho] at h
    simp only[Bool.and_eq_true] at h
    exact I3 h.2 k hk hm
theorem O9{n:Nat}{a:Act}{l1 rest:List (Nat×Value)}(h:Agr a l1): ∀(keep:List Nat),Sl n a rest df->Sl n a (Re keep l1 rest) df
 | [],hr=>hr
 | k::ks,hr=>by
  unfold Re
  split
  ·rename_i v hv
   exact(O9 h ks hr).add (h k v hv)
  ·exact O9 h ks hr
def AllL(l:List (Nat×Value)):List (Nat×Value)->Prop
 | []=>True
 | p::r=>l.lookup p.1=some p.2/\AllL l r
theorem AllL.known{n:Nat}{a:Act}{l:List (Nat×Value)}(hs:Sl n a l df): ∀{l0:List (Nat×Value)},AllL l l0->∀p∈l0,F9 a p.1=p.2
 | [],_,p,hp=>by cases hp
 | q::r,h,p,hp=>by
  rcases List.mem_cons.1 hp with rfl | hp
  ·exact hs.look _ h.1
  ·exact AllL.known hs h.2 p hp
theorem Sl.to{n:Nat}{a:Act}{l l0:List (Nat×Value)}(hs:Sl n a l df)(h:AllL l l0):Sl n a l0 df:=⟨hs.size,hs.defers,AllL.known hs h⟩
theorem Sl.agr{n:Nat}{a:Act}{l:List (Nat×Value)}(hs:Sl n a l df):Agr a l:=fun k _ h=>hs.look k h
def evC(P:Program)(n:Nat)(ds:List Nat)(g:List Giv)(l0:List (Nat×Value))(w:World)(K:List (Nat×Value)->World->Prop):Code->Prop
 | .region _ ops false=>match Be ds ops.toList with
  | true=>evL P n ops ops.toList g l0 w K
  | false=>False
 | _=>False
theorem reg{P:Program}{n:Nat}{a:Act}{w:World}{l l0:List (Nat×Value)}{c:Code}{N:Act->World->Prop}{Q:Exit->Act->World->Prop}{T:Prop}(keep ds:List Nat)(g:List Giv)(hs:Sl n a l df)(h0:AllL l l0)(hT:T)
  (he:T=evC P n ds g l0 w (fun l1 w'=> ∀a',Sl n a' (Re keep l1 (A6 ds l)) df->N a' w') c):rg P (Exit.then N Q) a w c:=by
 rw[he] at hT
 unfold evC at hT
 split at hT
 ·rename_i id ops
  split at hT
  ·rename_i hd
   show wpList _ _ _ _ _ _
   refine(Kf ops.toList g l0 w _ a hs.size hs.defers (hs.to h0).agr hT ?_)
   intro a' l' w' q1 q2 q3 q4 q5
   refine q5 a' (O9 q3 keep ⟨q1,q2,fun p hp=> ?_⟩)
   unfold A6 at hp
   obtain⟨hp1,hp2⟩:=List.mem_filter.1 hp
   rw[q4 p.1 (I3 hd p.1 (by simpa using hp2))]
   exact hs.known p hp1
  ·exact hT.elim
 ·exact hT.elim
theorem G4{P:Program}{op:BinOp}{t:TypeId}{x y:Operand}{a b v:Value}{w:World}(hg:(eqGuard op t x y a b).run P w=.ok () w)(h:(binOp op t a b).run P w=.ok v w):
  (do eqGuard op t x y a b;binOp op t a b:Sem Value).run P w=.ok v w:=by
 rw[Sem.run_bind,hg]
 exact h
def Lds(P:Program)(t:TypeId)(x v:Value)(w:World):Prop:= ∀m,(Instr.loadAt t x).run P (w.drewN m)=.ok v (w.drewN m)
theorem Lds.vx{P:Program}{t:TypeId}{x:Value}{w:World}{α:Type}{f:α->Value}{C:α->World->Prop}(h: ∃z:α,Lds P t x (f z) w/\C z w): ∃z:α,(Instr.loadAt t x).run P w=.ok (f z) w/\C z w:=let⟨z,h1,h2⟩:=h;⟨z,h1 0,h2⟩
theorem Lds.run{P:Program}{t:TypeId}{x v:Value}{w:World}(h:Lds P t x v w):(Instr.loadAt t x).run P w=.ok v w:=h 0
def Lkp(P:Program)(t:TypeId)(m x:Value)(c:Bool)(v:Value)(w:World):Prop:= ∀k,(Instr.lookup t m x c).run P (w.drewN k)=.ok v (w.drewN k)
theorem Lkp.run{P:Program}{t:TypeId}{m x v:Value}{c:Bool}{w:World}(h:Lkp P t m x c v w):(Instr.lookup t m x c).run P w=.ok v w:=h 0
def Ek6(P:Program)(st:Bool)(l:List (Nat×Value))(w:World)(k:Value->List Giv->Prop):Op->List Giv->Prop
 | .binOp op _ x y _,.bit b::g=>match Cd5 op (rho l x) (rho l y) with
  | some c=>c=b/\k (.bool b) g
  | none=>False
 | .binOp op t x y _,.bin v::g=>(∀w':World,(do eqGuard op t x y (rho l x) (rho l y);binOp op t (rho l x) (rho l y):Sem Value).run P w'=.ok v w')/\k v g
 | .index t x i,.val v::g=>(∀w':World,(Instr.index t (rho l x) (rho l i)).run P w'=.ok v w')/\k v g
 | .indexAddr t x i,.val v::g=>(∀w':World,(Instr.indexAt t (rho l x) (rho l i)).run P w'=.ok v w')/\k v g
 | .slice t x a b c,.val v::g=>(∀w':World,(Instr.sliceAt t (rho l x) (a.map (rho l)) (b.map (rho l)) (c.map (rho l))).run P w'=.ok v w')/\k v g
 | .typeAssert x s d ok,.val v::g=>(∀w':World,(Instr.typeAssert (rho l x) s d ok).run P w'=.ok v w')/\k v g
 | .convert s d x,.val v::g=>(∀w':World,(convert s d (rho l x)).run P w'=.ok v w')/\k v g
 | .build t ps,.val v::g=>(∀w':World,(Instr.build t (ps.map fun(i,x)=>(i,rho l x))).run P w'=.ok v w')/\k v g
 | .makeInterface t x,.val v::g=>(∀w':World,(Instr.makeInterface t (rho l x)).run P w'=.ok v w')/\k v g
 | .load t x,.val v::g=>Lds P t (rho l x) v w/\k v g
 | .lookup t m x c,.val v::g=>Lkp P t (rho l m) (rho l x) c v w/\k v g
 | .call c,.val v::g=>(∀m,Cv P l (w.drewN m) c (fun e w'=>e=.returned v/\match st with
   | true=>w'=w.drewN m
   | false=> ∃m',w'=w.drewN m'))/\k v g
 | .binOp op _ x y _,.ari::g=>match Cd6 op (rho l x) (rho l y) with
  | some z=>inK z.1 z.2/\k (.int z.1 z.2) g
  | none=>False
 | _,_=>False
def Wz(P:Program)(st:Bool)(l:List (Nat×Value))(w:World)(o:Oper)(g:List Giv)(k:Value->List Giv->Prop):Prop:=
 match Ak6 o.op,o.op.operands.toList.all (knO l) with
 | false,true=>match Rd P l o with
  | some v=>k v g
  | none=>Ek6 P st l w k o.op g
 | _,_=>False
theorem Mr{P:Program}{st:Bool}{l:List (Nat×Value)}{w:World}{o:Oper}{g:List Giv}{k:Value->List Giv->Prop}{a:Act}{N:Act->Prop}(ha:Agr a l)(h:Wz P st l w o g k)
    (hk: ∀v g',k v g'->N (a.put o.dst v)):o.quiet P a (fun w'=> ∃m,w'=w.drewN m) N:=by
  unfold Wz at h
  split at h
  · rename_i hs hkn
    have hsel: ∀cs b,o.op≠.select cs b:=fun cs b e=>by rw[e] at hs;cases hs
    have he:execOp a.eval o=execOp (rho l) o:=execOp_congr o hsel fun x hx=>ha.rho (List.all_eq_true.1 hkn x (by simpa using hx))
    have hval: ∀v g',(∀w':World,(execOp (rho l) o).run P w'=.ok (.value v) w')->k v g'->o.quiet P a (fun w'=> ∃m,w'=w.drewN m) N:=fun v g' hr hh=>
      ⟨v, fun w' _ => by
        unfold Oper.quietAt
        rw[he,hr w']
        exact⟨rfl,rfl⟩,hk v g' hh⟩
    split at h
    · rename_i v hv
      exact hval v g (fun _=>Y7 hv) h
    · generalize ho:o.op=op at h
      unfold Ek6 at h
      split at h
      · split at h
        · rename_i c hc
          obtain⟨rfl,h⟩:=h
          exact hval _ _ (fun _=>Cx ho hc) h
        · exact h.elim
      · rename_i op' t1 x1 y1 t2 v1 g1
        have h1:=h.1
        exact hval _ _ (fun w'=>by
          have:execOp (rho l) o=(do pure (.value (<-(do eqGuard op' t1 x1 y1 (rho l x1) (rho l y1);binOp op' t1 (rho l x1) (rho l y1):Sem Value))):Sem Next):=by unfold execOp;rw[ho]
          rw[this,Sem.run_bind,h1 w']
          rfl) h.2
      · exact hval _ _ (fun w'=>by simp[execOp,ho,h.1]) h.2
      · exact hval _ _ (fun w'=>by simp[execOp,ho,h.1]) h.2
      · exact hval _ _ (fun w'=>by simp[execOp,ho,h.1]) h.2
      · exact hval _ _ (fun w'=>by simp[execOp,ho,h.1]) h.2
      · exact hval _ _ (fun w'=>by simp[execOp,ho,h.1]) h.2
      · exact hval _ _ (fun w'=>by simp[execOp,ho,h.1]) h.2
      · exact hval _ _ (fun w'=>by simp[execOp,ho,h.1]) h.2
      · rename_i t x v1 g1
        refine⟨v1,fun w' hw'=> ?_,hk _ _ h.2⟩
        obtain⟨m,rfl⟩:=hw'
        have h1:=h.1 m
        unfold Oper.quietAt
        rw[he]
        simp[execOp,ho,h1,Oper.quietUpon]
      · rename_i t mm x cc v1 g1
        refine⟨v1,fun w' hw'=> ?_,hk _ _ h.2⟩
        obtain⟨m,rfl⟩:=hw'
        have h1:=h.1 m
        unfold Oper.quietAt
        rw[he]
        simp[execOp,ho,h1,Oper.quietUpon]
      · rename_i c v1 g1
        refine⟨v1,fun w' hw'=> ?_,hk _ _ h.2⟩
        obtain⟨m,rfl⟩:=hw'
        obtain⟨i,hr,hC⟩:=Bv ho (h.1 m)
        unfold Oper.quietAt
        rw[he,hr]
        refine⟨rfl,hC.mono fun e w' hh=>⟨hh.1, ?_⟩⟩
        cases st with
        | true=>exact⟨m,hh.2⟩
        | false=>exact hh.2
      · split at h
        · rename_i z hz
          exact hval _ _ (fun _=>Cy ho hz h.1) h.2
        · exact h.elim
      · exact h.elim
  · exact h.elim
def evQ(P:Program)(st:Bool)(n:Nat)(ops:Array Oper)(w:World):List Oper->List Giv->List (Nat×Value)->(List (Nat×Value)->Prop)->Prop
 | [],_,l,K=>K l
 | o::r,g,l,K=>match Q2 n o.dst,gdL ops l o with
  | true,some true=>Wz P st l w o g (fun v g'=>evQ P st n ops w r g' (Eu o.dst v l) K)
  | true,some false=>evQ P st n ops w r g (Eu o.dst undef l) K
  | _,_=>False
theorem Az8{P:Program}{st:Bool}{n:Nat}{ops:Array Oper}{w:World}{Q:Act->Prop}: ∀(r:List Oper) (g:List Giv) (l:List (Nat×Value)) (K:List (Nat×Value)->Prop) (a:Act),
  a.tmps.size=n->a.defers=df->Agr a l->evQ P st n ops w r g l K->
  (∀a' l',a'.tmps.size=n->a'.defers=df->Agr a' l'->(∀k,some k∉r.map (·.dst)->F9 a' k=F9 a k)->K l'->Q a')->wpQuiet P ops (fun w'=> ∃m,w'=w.drewN m) Q r a
 | [],g,l,K,a,h1,h2,h3,h,hQ=>hQ a l h1 h2 h3 (fun _ _=>rfl) h
 | o::r,g,l,K,a,h1,h2,h3,h,hQ=>by
  unfold evQ at h
  have next: ∀v g',Q2 n o.dst=true->evQ P st n ops w r g' (Eu o.dst v l) K->wpQuiet P ops (fun w'=> ∃m,w'=w.drewN m) Q r (a.put o.dst v):=fun v g' hd hh=>
   Az8 r g' _ K (a.put o.dst v) ((F3 _ _ _).trans h1) ((put_defers _ _ _).trans h2) (L5 h3 h1 hd) hh fun a' l' q1 q2 q3 q4 q5=>
    hQ a' l' q1 q2 q3 (fun k hk=>(q4 k (fun hm=>hk (List.mem_cons_of_mem _ hm))).trans (M0 a _ v k fun e=>hk (by rw[List.map_cons,e];exact List.mem_cons_self))) q5
  split at h
  ·rename_i hd hg
   refine wpQuiet_step fun N hN=> ?_
   rw[if_pos (by rw[F7 h3 hg])]
   exact Mr h3 h fun v g' hh=>hN _ (next v g' hd hh)
  ·rename_i hd hg
   refine wpQuiet_step fun N hN=> ?_
   rw[if_neg (by rw[F7 h3 hg];simp)]
   exact hN _ (next undef g hd h)
  ·exact h.elim
def Eu7(P:Program)(n:Nat)(ds:List Nat)(g:List Giv)(l0:List (Nat×Value))(w:World)(K:List (Nat×Value)->Prop):Code->Prop
 | .region _ ops true=>match Be ds ops.toList,P.follows .mixedOrders,Region.lexB .any ops with
  | true,true,true=>evQ P false n ops w ops.toList g l0 K
  | _,_,_=>False
 | _=>False
theorem Ao{P:Program}{n:Nat}{a:Act}{w:World}{l l0:List (Nat×Value)}{c:Code}{N:Act->World->Prop}{Q:Exit->Act->World->Prop}{T:Prop}(keep ds:List Nat)(g:List Giv)(hs:Sl n a l df)(h0:AllL l l0)(hT:T)
  (he:T=Eu7 P n ds g l0 w (fun l1=> ∀a' m,Sl n a' (Re keep l1 (A6 ds l)) df->N a' (w.drewN m)) c):rg P (Exit.then N Q) a w c:=by
 rw[he] at hT
 unfold Eu7 at hT
 split at hT
 ·rename_i id ops
  split at hT
  ·rename_i hd hm hl
   refine Oe (C:=fun w'=> ∃m,w'=w.drewN m) hm hl ⟨1,rfl⟩ (Az8 ops.toList g l0 _ a hs.size hs.defers (hs.to h0).agr hT ?_)
   rintro a' l' q1 q2 q3 q4 q5 w' ⟨m,rfl⟩
   refine q5 a' m (O9 q3 keep ⟨q1,q2,fun p hp=> ?_⟩)
   unfold A6 at hp
   obtain⟨hp1,hp2⟩:=List.mem_filter.1 hp
   rw[q4 p.1 (I3 hd p.1 (by simpa using hp2))]
   exact hs.known p hp1
  ·exact hT.elim
 ·exact hT.elim
theorem Ms{P:Program}{l:List (Nat×Value)}{w:World}{o:Oper}{g:List Giv}{k:Value->List Giv->Prop}{a:Act}{N:Act->Prop}(ha:Agr a l)(h:Wz P true l w o g k)
  (hk: ∀v g',k v g'->N (a.put o.dst v)):o.still P a (w.drewN 1) N:=by
 unfold Wz at h
 split at h
 ·rename_i hs hkn
  have hsel: ∀cs b,o.op≠.select cs b:=fun cs b e=>by rw[e] at hs;cases hs
  have he:execOp a.eval o=execOp (rho l) o:=execOp_congr o hsel fun x hx=>ha.rho (List.all_eq_true.1 hkn x (by simpa using hx))
  have hval: ∀v g',(execOp (rho l) o).run P (w.drewN 1)=.ok (.value v) (w.drewN 1)->k v g'->o.still P a (w.drewN 1) N:=fun v g' hr hh=>by
   unfold Oper.still
   rw[he,hr]
   exact⟨rfl,hk v g' hh⟩
  split at h
  ·rename_i v hv
   exact hval v g (Y7 hv) h
  ·generalize ho:o.op=op at h
   unfold Ek6 at h
   split at h
   ·split at h
    ·rename_i c hc
     obtain⟨rfl,h⟩:=h
     exact hval _ _ (Cx ho hc) h
    ·exact h.elim
   ·rename_i op' t1 x1 y1 t2 v1 g1
    have h1:=h.1
    exact hval _ _ (by
     have:execOp (rho l) o=(do pure (.value (<-(do eqGuard op' t1 x1 y1 (rho l x1) (rho l y1);binOp op' t1 (rho l x1) (rho l y1):Sem Value))):Sem Next):=by unfold execOp;rw[ho]
     rw[this,Sem.run_bind,h1]
     rfl) h.2
   ·exact hval _ _ (by simp[execOp,ho,h.1]) h.2
   ·exact hval _ _ (by simp[execOp,ho,h.1]) h.2
   ·exact hval _ _ (by simp[execOp,ho,h.1]) h.2
   ·exact hval _ _ (by simp[execOp,ho,h.1]) h.2
   ·exact hval _ _ (by simp[execOp,ho,h.1]) h.2
   ·exact hval _ _ (by simp[execOp,ho,h.1]) h.2
   ·exact hval _ _ (by simp[execOp,ho,h.1]) h.2
   ·have h1:=h.1 1
    exact hval _ _ (by simp[execOp,ho,h1]) h.2
   ·have h1:=h.1 1
    exact hval _ _ (by simp[execOp,ho,h1]) h.2
   ·rename_i c v1 g1
    obtain⟨i,hr,hC⟩:=Bv ho (h.1 1)
    unfold Oper.still
    rw[he,hr]
    exact⟨rfl,v1,hC,hk _ _ h.2⟩
   ·split at h
    ·rename_i z hz
     exact hval _ _ (Cy ho hz h.1) h.2
    ·exact h.elim
   ·exact h.elim
 ·exact h.elim
theorem Kg{P:Program}{n:Nat}{ops:Array Oper}{w:World}{Q:Act->Prop}: ∀(r:List Oper) (g:List Giv) (l:List (Nat×Value)) (K:List (Nat×Value)->Prop) (a:Act),
  a.tmps.size=n->a.defers=df->Agr a l->evQ P true n ops w r g l K->
  (∀a' l',a'.tmps.size=n->a'.defers=df->Agr a' l'->(∀k,some k∉r.map (·.dst)->F9 a' k=F9 a k)->K l'->Q a')->wpStill P ops (w.drewN 1) Q r a
 | [],g,l,K,a,h1,h2,h3,h,hQ=>hQ a l h1 h2 h3 (fun _ _=>rfl) h
 | o::r,g,l,K,a,h1,h2,h3,h,hQ=>by
  unfold evQ at h
  have next: ∀v g',Q2 n o.dst=true->evQ P true n ops w r g' (Eu o.dst v l) K->wpStill P ops (w.drewN 1) Q r (a.put o.dst v):=fun v g' hd hh=>
   Kg r g' _ K (a.put o.dst v) ((F3 _ _ _).trans h1) ((put_defers _ _ _).trans h2) (L5 h3 h1 hd) hh fun a' l' q1 q2 q3 q4 q5=>
    hQ a' l' q1 q2 q3 (fun k hk=>(q4 k (fun hm=>hk (List.mem_cons_of_mem _ hm))).trans (M0 a _ v k fun e=>hk (by rw[List.map_cons,e];exact List.mem_cons_self))) q5
  split at h
  ·rename_i hd hg
   refine wpStill_step fun N hN=> ?_
   rw[if_pos (by rw[F7 h3 hg])]
   exact Ms h3 h fun v g' hh=>hN _ (next v g' hd hh)
  ·rename_i hd hg
   refine wpStill_step fun N hN=> ?_
   rw[if_neg (by rw[F7 h3 hg];simp)]
   exact hN _ (next undef g hd h)
  ·exact h.elim
def Eu8(P:Program)(n k:Nat)(ds:List Nat)(g1 g2:List Giv)(l0:List (Nat×Value))(w:World)(K:List (Nat×Value)->World->Prop):Code->Prop
 | .region _ ⟨ops⟩ true=>match Be ds ops,P.follows .mixedOrders,Region.lexTailB .any ⟨ops⟩ k with
  | true,true,true=>evQ P true n ⟨ops⟩ w (ops.take k) g1 l0 (fun l1=>evL P n ⟨ops⟩ (ops.drop k) g2 l1 (w.drewN 1) K)
  | _,_,_=>False
 | _=>False
theorem Ew5{P:Program}{n:Nat}{a:Act}{w:World}{l l0:List (Nat×Value)}{c:Code}{N:Act->World->Prop}{Q:Exit->Act->World->Prop}{T:Prop}(k:Nat)(keep ds:List Nat)(g1 g2:List Giv)(hs:Sl n a l df)(h0:AllL l l0)(hT:T)
  (he:T=Eu8 P n k ds g1 g2 l0 w (fun l1 w'=> ∀a',Sl n a' (Re keep l1 (A6 ds l)) df->N a' w') c):rg P (Exit.then N Q) a w c:=by
 rw[he] at hT
 unfold Eu8 at hT
 split at hT
 ·rename_i id ops
  split at hT
  ·rename_i hd hm hl
   refine Bp9 k hm hl (Kg (ops.take k) g1 l0 _ a hs.size hs.defers (hs.to h0).agr hT ?_)
   intro a1 l1 p1 p2 p3 p4 p5
   refine Kf (ops.drop k) g2 l1 _ _ a1 p1 p2 p3 p5 ?_
   intro a' l' w' q1 q2 q3 q4 q5
   refine q5 a' (O9 q3 keep ⟨q1,q2,fun p hp=> ?_⟩)
   unfold A6 at hp
   obtain⟨hp1,hp2⟩:=List.mem_filter.1 hp
   have hno:=I3 hd p.1 (by simpa using hp2)
   rw[q4 p.1 (fun hm=>hno (List.map_subset _ (List.drop_subset _ _) hm)),p4 p.1 (fun hm=>hno (List.map_subset _ (List.take_subset _ _) hm))]
   exact hs.known p hp1
  ·exact hT.elim
 ·exact hT.elim
theorem Zz{l:List (Nat×Value)}:AllL l []:=trivial
theorem Zc{l l0:List (Nat×Value)}{k:Nat}{v:Value}(h:l.lookup k=some v)(h0:AllL l l0):AllL l ((k,v)::l0):=⟨h,h0⟩
theorem Zg{P:Program}{n:Nat}{a:Act}{w:World}{l:List (Nat×Value)}{df:List Deferred}{c:Code}{N:Act->World->Prop}{Q:Exit->Act->World->Prop}{T:Prop}(ks:List Nat)(hs:Sl n a l df)(hT:T)(he:T=evC P n ks [] [] w (fun l1 w'=> ∀a',Sl n a' (Re ks l1 (A6 ks l)) df->N a' w') c:=by kernel_rfl):rg P (Exit.then N Q) a w c:=reg (l0:=[]) ks ks [] hs Zz hT he
theorem Zs{P:Program}{Q:Exit->Act->World->Prop}{a:Act}{w:World}{c d:Code}(h:rg P (Exit.then (fun a' w'=>d.wp P Q a' w') Q) a w c):(Code.seq c d).wp P Q a w:=wp_seq (Wv h)
end Go.Proofs.YtbjegfpfmnleeaaGreatDoor
