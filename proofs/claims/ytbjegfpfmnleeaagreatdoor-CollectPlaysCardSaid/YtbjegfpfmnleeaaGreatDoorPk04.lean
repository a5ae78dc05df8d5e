/-
   Written by an AI agent.
-/
import Derived.Test.YtbjegfpfmnleeaaGreatDoorPk03
import Derived.Deep.MidRow
import Derived.Laws.AppendOwn
namespace Go.Proofs.YtbjegfpfmnleeaaGreatDoor
open Go.RowKit
set_option maxRecDepth 100000
theorem wpo{P:Program}{k:Nat}{x y:Code}{Q:Exit->Act->World->Prop}{a:Act}{w:World}(hc:F9 a k=.bool false)(h:y.wp P Q a w):(Code.cond (.tmp k) x .skip).wp P (Exit.then (y.wp P Q) Q) a w:=wp_cond_false hc (wp_skip h)
theorem wpn{P:Program}{k:Nat}{x y:Code}{Q:Exit->Act->World->Prop}{a:Act}{w:World}(hc:F9 a k=.bool true)(h:y.wp P Q a w):(Code.cond (.tmp k) .skip x).wp P (Exit.then (y.wp P Q) Q) a w:=wp_cond_true hc (wp_skip h)
theorem wpx{P:Program}{k n:Nat}{K:Act->World->Prop}{Q:Exit->Act->World->Prop}{a:Act}{w:World}(hc:F9 a k=.bool false)(h:Q (.exit n) a w):(Code.cond (.tmp k) .skip (.exit n)).wp P (Exit.then K Q) a w:=wp_cond_false hc (wp_exit h)
theorem wpl{P:Program}{c:Code}{Q:Exit->Act->World->Prop}{a:Act}{w:World}(h:c.wp P (Exit.then (Q .normal) Q) a w):c.wp P Q a w:=by
 have e:Exit.then (Q .normal) Q=Q:=by
  funext e a w
  cases e<;>rfl
 rwa [e] at h
theorem D2{K:Act->World->Prop}{Q:Exit->Act->World->Prop}{a:Act}{w:World}(h:Q .ret a w):Exit.then K Q .ret a w:=h
theorem F1{id:Nat}{Q:Exit->Act->World->Prop}{a:Act}{w:World}(h:Q .ret a w):Exit.inBlock id Q .ret a w:=by simpa[Exit.inBlock] using h
theorem B1{id:Nat}{Q:Exit->Act->World->Prop}{a:Act}{w:World}(h:Q .normal a w):Exit.inBlock id Q .normal a w:=by simpa[Exit.inBlock] using h
def Vv:Nat->List Value->List (Nat×Value)
 | _,[]=>[]
 | k,v::r=>(k,v)::Vv (k+1) r
theorem Jt: ∀(vs:List Value) (k:Nat) (p:Nat×Value),p∈Vv k vs->∃j,p.1=k+j/\vs[j]? =some p.2
 | [],_,_,h=>by cases h
 | v::r,k,p,h=>by
  rcases List.mem_cons.1 h with rfl | h
  ·exact⟨0,rfl,rfl⟩
  ·obtain⟨j,h1,h2⟩:=Jt r (k+1) p h
   exact⟨j+1,Zo,by simpa using h2⟩
theorem Sl.start(vs:List Value)(n:Nat)(h:vs.length<=n):Sl n {tmps:=vs.toArray++Array.replicate (n-vs.toArray.size) undef,defers:=[]} (Vv 0 vs):=
 ⟨by simp;omega,rfl,fun p hp=>by
  obtain⟨j,h1,h2⟩:=Jt vs 0 p hp
  have hj:=(List.getElem?_eq_some_iff.1 h2).1
  simp only[F9,Array.getD_eq_getD_getElem?,h1,Nat.zero_add]
  rw[Array.getElem?_append_left (by simpa using hj)]
  simp[h2]⟩
theorem B6{P:Program}{f:FuncId}{fn:Func}{c:Code}{vs:List Value}{w:World}{R:Ending->World->Prop}(n:Nat)(hf:P.funcs[f]? =some fn)(hb:fn.body=some c)(hn:fn.ntmps=n)(hv:vs.length<=n)
  (h: ∀a,Sl n a (Vv 0 vs)->c.wp P (bodyPost P fn R) a w):Calls P f vs.toArray w R:=by
 refine calls_of_wp hf hb ?_
 rw[hn]
 exact h _ (Sl.start vs n hv)
theorem G7{P:Program}{fn:Func}{R:Ending->World->Prop}{a:Act}{w:World}{n t:Nat}{l:List (Nat×Value)}{v:Value}(hr:fn.results=#[.tmp t])(hs:Sl n a l)(e:l.lookup t=some v)(h:R (.returned v) w):bodyPost P fn R .ret a w:=
 bodyPost_ret ((results_tmp hr _ _ _).trans (by rw[show a.tmps.getD t undef=v from hs.look t e])) hs.defers h
theorem Ej3{P:Program}{fn:Func}{R:Ending->World->Prop}{a:Act}{w:World}{n t u:Nat}{l:List (Nat×Value)}{v x:Value}(hr:fn.results=#[.tmp t,.tmp u])(hs:Sl n a l)(e:l.lookup t=some v)(e2:l.lookup u=some x)(h:R (.returned (.tuple #[v,x])) w):bodyPost P fn R .ret a w:=
 bodyPost_ret ((results_tmp2 hr _ _ _).trans (by rw[show a.tmps.getD t undef=v from hs.look t e,show a.tmps.getD u undef=x from hs.look u e2])) hs.defers h
theorem H9{P:Program}{t:TypeId}{d:TypeDesc}{b o:Nat}{v:Value}{w:World}(hu:P.underlying t=some d)(hd:d.isRow=false)(h:w.cell? ⟨b,o,none⟩=some v):Lds P t (.pointer (some ⟨b,o,none⟩)) v w:=fun m=>by
 have h':(w.drewN m).cell? ⟨b,o,none⟩=some v:=h
 have hA:(isAgg t).run P (w.drewN m)=.ok false (w.drewN m):=by
  cases d<;>first | (simp[TypeDesc.isRow] at hd;done) | simp[isAgg,run_underlying hu]
 simp[Instr.loadAt,Instr.sureAddr,loadVar,hA,h']
theorem Bo7{P:Program}{t:TypeId}{d:TypeDesc}{b o:Nat}{cs:List Value}{w:World}(hu:P.underlying t=some d)(hd:d.isRow=true)(hi:(P.info? t).map (·.size)=some cs.length)(h:w.rangeAt b o cs):Lds P t (.pointer (some ⟨b,o,none⟩)) (.agg cs.toArray) w:=fun m=>
 run_loadAt_mid (w.drewN m) b o t cs d h hu hd hi
theorem Vw{w:World}{g:Nat}{t:TypeId}{cs:Array Value}(h:Blk w g t cs){o:Nat}{vs:List Value}(hv: ∀j v,vs[j]? =some v->cs[o+j]? =some v):w.rangeAt g o vs:=fun j v hj=>by rw[h.cell,hv j v hj]
theorem O5{w:World}{g:Nat}{t:TypeId}{cs:Array Value}(h:Blk w g t cs){o n:Nat}(hn:o+n<=cs.size):w.there g o n:=fun j hj=>⟨by rw[h.cell,Array.getElem?_eq_getElem Zo];rfl,h.frozen _⟩
theorem Et6{P:Program}{t:TypeId}{b o:Nat}{cells:Array Value}{w:World}(ht:w.there b o cells.size)(hi:(P.info? t).map (·.size)=some cells.size)(h1:cells.all (·.oneCell')=true):
  (Instr.storeAt t (.pointer (some ⟨b,o,none⟩)) (.agg cells)).run P w=.ok () (w.setCells b o cells.toList):=run_storeAt_mid w b o t cells ht hi h1
theorem Cd3{P:Program}{t:TypeId}{b o:Nat}{v:Value}{w:World}(ht:w.there b o 1)(hi:(P.info? t).map (·.size)=some 1)(h1:v.oneCell'=true):
  (Instr.storeAt t (.pointer (some ⟨b,o,none⟩)) v).run P w=.ok () (w.setCells b o [v]):=by
 obtain⟨i,hi1,hi2⟩:=Option.map_eq_some_iff.1 hi
 obtain⟨h2,h3⟩:=ht 0 Zo
 rw[Nat.add_zero] at h2 h3
 obtain⟨u,hu⟩:=Option.isSome_iff_exists.1 h2
 have hc:v.cells=#[v]:=by cases v<;>first | rfl | cases h1
 have ha:(⟨b,o,none⟩:Addr).add 0=⟨b,o,none⟩:=rfl
 simp[Instr.storeAt,Instr.sureAddr,storeVar,sizeOf,typeInfo,hi1,hi2,hc,storeCells,run_store _ _ _ _ _ h1,ha,hu,h3,World.setCells]
theorem Blk.setL{g:Nat}{t:TypeId}: ∀(vs:List Value) (o:Nat) (cs:Array Value) (w:World),Blk w g t cs->Blk (w.setCells g o vs) g t (vs.foldl (fun(p:Array Value×Nat) v=>(p.1.setIfInBounds p.2 v,p.2+1)) (cs,o)).1
 | [],_,_,_,h=>h
 | v::r,o,_,_,h=>Blk.setL r (o+1) _ _ (h.set_ o v)
theorem C8{B b:Nat}{w0:World}: ∀(vs:List Value) (o:Nat) (w:World),Below B w0 w->B<=b->Below B w0 (w.setCells b o vs)
 | [],_,_,h,_=>h
 | v::r,o,_,h,hb=>C8 r (o+1) _ (h.setCell (p:=⟨b,o,none⟩) hb v) hb
theorem Blk.farL{g b:Nat}{t:TypeId}{cs:Array Value}(hne:g≠b): ∀(vs:List Value) (o:Nat) (w:World),Blk w g t cs->Blk (w.setCells b o vs) g t cs
 | [],_,_,h=>h
 | v::r,o,_,h=>Blk.farL hne r (o+1) _ (h.far (p:=⟨b,o,none⟩) hne v)
theorem Aj9{P:Program}{t e:TypeId}{sz g n cap o:Nat}{x:Int}(k:Nat)(hx:x=k)(ht:P.underlying t=some (.slice e))(hi:(P.info? e).map (·.size)=some sz)(hk:k<n)(ho:o=k*sz)(w:World):
  (Instr.indexAt t (.slice (some ⟨g,0,none⟩) n cap) (.int .i64 x)).run P w=.ok (.pointer (some ⟨g,o,none⟩)) w:=by
 subst hx
 subst ho
 obtain⟨i,hi1,hi2⟩:=Option.map_eq_some_iff.1 hi
 have ha:(⟨g,0,none⟩:Addr).add (k*sz)=⟨g,k*sz,none⟩:=by
  unfold Addr.add
  split
  ·rename_i h;rw[h]
  ·simp
 simp[Instr.indexAt,asIntOf,run_underlying ht,sizeOf,typeInfo,hi1,hi2,ha]
 omega
theorem Calls.con{P:Program}{f:FuncId}{args:Array Value}{w:World}{v:Value}{C:World->Prop}(h:Calls P f args w fun e w'=>e=.returned v/\C w'):Calls P f args w fun e w'=> ∃x,e=.returned x/\(x=v/\C w'):=
 h.mono fun _ _ ⟨he,hc⟩=>⟨v,he,rfl,hc⟩
theorem Zl{P:Program}{Q:Exit->Act->World->Prop}{a:Act}{w:World}{c:Code}(h:rg P (Exit.then (Q .normal) Q) a w c):c.wp P Q a w:=wpl (Wv h)
end Go.Proofs.YtbjegfpfmnleeaaGreatDoor
namespace Go.Proofs.YtbjegfpfmnleeaaGreatDoor
open Go.RowKit Go.Sort
section
variable {P:Program} {ops:Array Oper} {md:Region.Mode} {C:World->Prop}
end
section
variable {P:Program} {ops:Array Oper} {md:Region.Mode} {C:World->Prop}
def Stays(P:Program)(ops:Array Oper)(C:World->Prop)(o:Oper)(v:Value)(a:Act):Prop:=
 Region.wanted o (yielded ops a.tmps)=true/\(∃k,o.dst=some k/\k<a.tmps.size)/\∀w,C w->o.wp P a w (fun b u=>b=a.put o.dst v/\u=w) (fun _ _ _=>False)
theorem Hj{a:Act}{k:Nat}(hk:k<a.tmps.size){x v:Value}(h:a.put (some k) x=a.put (some k) v):x=v:=by
 have h1:=congrArg (fun b:Act=>b.tmps.getD k undef) h
 simpa[Act.put,hk] using h1
theorem Am3(a:Act)(d:Option Tmp)(v:Value):(a.put d v).tmps.size=a.tmps.size:=by cases d<;>simp[Act.put]
theorem Pa{o:Oper}{a b:Act}{w:World}{v:Value}{k:Nat}{K:Act->World->Prop}{Q:Exit->Act->World->Prop}(hd:o.dst=some k)(hk:k<a.tmps.size)(he:execOp b.eval o=execOp a.eval o)
  (h:o.wp P a w (fun b u=>b=a.put o.dst v/\u=w) (fun _ _ _=>False)) (hK:K (b.put o.dst v) w):o.wp P b w K Q:=by
 unfold Oper.wp at*
 rw[he]
 generalize (execOp a.eval o).run P w=r at*
 rw[hd] at h hK
 cases r with
 | ok n w'=>
  cases n<;>simp only[Oper.upon,hd] at h ⊢
  case value u=>
   obtain⟨e1,rfl⟩:=h
   rw[Hj hk e1];exact hK
  case skip=>
   obtain⟨e1,rfl⟩:=h
   rw[Hj hk e1];exact hK
  case defer d=>
   obtain⟨e1,_⟩:=h
   have:=congrArg (fun b:Act=>b.defers.length) e1
   simp[Act.put] at this
  case enter f args=>
   refine Calls.mono h fun e w'' he=> ?_
   cases e with
   | returned u=>
    obtain⟨e1,rfl⟩:=he
    show K (b.put (some k) u) w''
    rw[Hj hk e1];exact hK
   | panicked c=>exact he.elim
   | outgrown=>obtain⟨_,_,h⟩:=he;exact h.elim
  case row row args=>
   refine Rows.mono h fun u w'' he=> ?_
   obtain⟨e1,rfl⟩:=he
   rw[Hj hk e1];exact hK
 | halt x w'=>cases x<;>simp only[Oper.upon] at h ⊢
theorem Stays.of_same{o:Oper}{v:Value}{a b:Act}(hs:b.tmps.size=a.tmps.size)(hy:Stays P ops C o v a)(he:execOp b.eval o=execOp a.eval o)
  (hw:Region.wanted o (yielded ops b.tmps)=Region.wanted o (yielded ops a.tmps)):Stays P ops C o v b:=by
 obtain⟨h1,⟨k,h2,h3⟩,h4⟩:=hy
 exact⟨hw.trans h1,⟨k,h2,by rw[hs];exact h3⟩,fun w hC=>Pa h2 h3 he (h4 w hC) ⟨rfl,rfl⟩⟩
theorem Stays.wpOp{i:Nat}{o:Oper}{v:Value}{a:Act}{Q:Exit->Act->World->Prop}(hi:ops[i]? =some o)(hy:Stays P ops C o v a){K:Act->World->Prop}{w:World}(hC:C w)(h:K (a.put o.dst v) w):wpOp P ops Q i K a w:=by
 obtain⟨h1,⟨k,h2,h3⟩,h4⟩:=hy
 unfold Go.wpOp
 simp only[hi,h1,if_true]
 exact .inl (Pa h2 h3 rfl (h4 w hC) h)
theorem Kp{Q:Exit->Act->World->Prop}{j:Nat}{oi oj:Oper}{v:Value}(hj:ops[j]? =some oj)(hap:oi.apart ops oj=true)
  (hsi: ∀cs b,oi.op≠.select cs b) (hsj: ∀cs b,oj.op≠.select cs b)
  (hQ: ∀c a w,Q (.panic c) (a.put oi.dst v) w->Q (.panic c) a w) {K:Act->World->Prop} {a:Act} {w:World}
  (hy:Stays P ops C oi v a) (h:wpOp P ops Q j K (a.put oi.dst v) w):
  wpOp P ops Q j (fun a' w'=>Stays P ops C oi v a'/\K (a'.put oi.dst v) w') a w:=by
 obtain⟨h1,h2,h3⟩:=Oper.apart_spec hap
 have keep: ∀(a:Act),Stays P ops C oi v a->∀u,Stays P ops C oi v (a.put oj.dst u):=fun a hy u=>
  hy.of_same (Am3 _ _ _) (execOp_put oi hsi a oj.dst u h3) (wanted_put oi a oj.dst u h3)
 have keepD: ∀d,Stays P ops C oi v {a with defers:=d::a.defers}:=fun d=>Stays.of_same (a:=a) rfl hy rfl rfl
 unfold wpOp at*
 simp only[hj] at*
 rw[wanted_put oj a oi.dst v h1] at h
 split
 ·rename_i hw
  simp only[hw,if_true] at h
  rcases h with h | ⟨hasks,hlets⟩
  case inr=>exact .inr ⟨by unfold Oper.asks at*;rw[execOp_put oj hsj a oi.dst v h1] at hasks;exact hasks,hlets⟩
  refine .inl ?_
  unfold Oper.wp at*
  rw[execOp_put oj hsj a oi.dst v h1] at h
  generalize (execOp a.eval oj).run P w=r at*
  cases r with
  | ok n w'=>
   cases n<;>simp only[Oper.upon] at h ⊢
   case value u=>exact⟨keep a hy u,by rw[<-Act.put_comm a v u h2];exact h⟩
   case skip=>exact⟨keep a hy _,by rw[<-Act.put_comm a v undef h2];exact h⟩
   case defer d=>
    refine⟨keep _ (keepD d) _, ?_⟩
    rw[<-Act.put_comm _ v undef h2,<-Act.put_defers]
    exact h
   case enter f args=>
    refine Calls.mono h fun e w'' he=> ?_
    cases e with
    | returned u=>exact⟨keep a hy u,by rw[<-Act.put_comm a v u h2];exact he⟩
    | panicked c=>exact hQ _ _ _ he
    | outgrown=>exact he
   case row row args=>exact Rows.mono h fun u w'' he=>⟨keep a hy u,by rw[<-Act.put_comm a v u h2];exact he⟩
  | halt x w'=>
   cases x<;>simp only[Oper.upon] at h ⊢
   exact hQ _ _ _ h
 ·rename_i hw
  simp only[hw] at h
  exact⟨keep a hy _,by rw[<-Act.put_comm a v undef h2];exact h⟩
def headC(P:Program)(md:Region.Mode)(ops:Array Oper)(C:World->Prop)(Q:Exit->Act->World->Prop)(n:Nat)(L:Array Bool->Act->World->Prop):Nat->Array Bool->Act->World->Prop
 | 0,done,a,w=>C w/\L done a w
 | f+1,done,a,w=>C w/\¬Region.ready md ops done=[]/\∀i,i∈Region.ready md ops done->i<n/\wpOp P ops Q i (headC P md ops C Q n L f (done.setIfInBounds i true)) a w
theorem headC.cls{Q:Exit->Act->World->Prop}{n f:Nat}{L:Array Bool->Act->World->Prop}{done:Array Bool}{a:Act}{w:World}(h:headC P md ops C Q n L f done a w):C w:=by
 cases f with
 | zero=>exact h.1
 | succ f=>exact h.1
theorem Dk{Q:Exit->Act->World->Prop}{n g:Nat}{L:Array Bool->Act->World->Prop}(hL: ∀done a w,L done a w->wpAny P md ops Q g done a w)(f:Nat):
  ∀(done:Array Bool) (a:Act) (w:World),headC P md ops C Q n L f done a w->wpAny P md ops Q (f+g) done a w:=by
 induction f with
 | zero=>intro done a w h;rw[Nat.zero_add];exact hL _ _ _ h.2
 | succ f ih=>
  intro done a w h
  rw[Nat.add_right_comm]
  exact⟨fun e=>absurd e h.2.1,fun i hi=>wpOp_mono (fun a' w' h'=>ih _ a' w' h') (h.2.2 i hi).2⟩
theorem Dl{Q:Exit->Act->World->Prop}{n i:Nat}{o:Oper}{v:Value}{L:Array Bool->Act->World->Prop}(hQ: ∀c a w,Q (.panic c) (a.put o.dst v) w->Q (.panic c) a w)(ho:ops[i]? =some o)(hsel: ∀(j:Nat) (o:Oper) cs b,ops[j]? =some o->o.op≠.select cs b)
    (hs:Region.sinkB md ops n=true) (hc:Region.chainB md ops n=true) (hn:n<ops.size) (hin:i<n) (hL: ∀done a w,L done a w->∀j∈Region.ready md ops done,n<=j) (f:Nat):
    ∀ (done : Array Bool) (a : Act) (w : World), HeadInv md ops n done →
      (∀j oj,ops[j]? =some oj->j≠i->done.getD j true=false->(∀e∈oj.after,Region.binds md e=true->e.on≠i)->o.apart ops oj=true)->
      i∈Region.ready md ops done->Stays P ops C o v a->headC P md ops C Q n L f (done.setIfInBounds i true) (a.put o.dst v) w->headC P md ops C Q n L (f+1) done a w:=by
  induction f with
  | zero=>
    intro done a w inv _ hr hy H
    refine⟨H.cls,fun e=>(by rw[e] at hr;cases hr),fun j hj=> ?_⟩
    have hjn:j<n:=Nat.lt_of_not_le fun hle=>tail_waits hs hc hn inv _ i rfl hin (mem_ready.1 hr).1 j hle hj
    by_cases e:j=i
    · subst e;exact⟨hjn,hy.wpOp ho H.cls H⟩
    · have:=hL _ _ _ H.2 j (ready_mono hj e);omega
  | succ f ih=>
    intro done a w inv hap hr hy H
    have hun:=(mem_ready.1 hr).1
    refine⟨H.cls,fun e=>(by rw[e] at hr;cases hr),fun j hj=> ?_⟩
    have hjn:j<n:=Nat.lt_of_not_le fun hle=>tail_waits hs hc hn inv _ i rfl hin hun j hle hj
    refine⟨hjn, ?_⟩
    by_cases e:j=i
    · subst e;exact hy.wpOp ho H.cls H
    obtain⟨hj1,oj,hoj,hj2⟩:=mem_ready.1 hj
    have hfree: ∀x∈oj.after,Region.binds md x=true->x.on≠i:=fun x hx hb hxi=>by
      have:=hj2 x hx hb
      rw[hxi,getD_both hun] at this
      cases this
    refine wpOp_mono (fun a' w' h3=> ?_) (Kp hoj (hap j oj hoj e hj1 hfree) (fun cs b=>hsel i o cs b ho) (fun cs b=>hsel j oj cs b hoj) hQ hy (H.2.2 j (ready_mono hj e)).2)
    refine ih (done.setIfInBounds j true) a' w' (inv.set hj hjn) (fun k ok hk hki hku hkf=>hap k ok hk hki ?_ hkf) (ready_mono hr (Ne.symm e)) h3.1 (by rw[Array.setIfInBounds_comm _ _ e];exact h3.2)
    by_cases hjk:j=k
    · subst hjk;exact hj1
    · rwa [getD_set_ne true hjk] at hku
def wpP(P:Program)(ops:Array Oper)(C:World->Prop)(Z:Act->Prop):List Oper->Act->Prop
 | [],a=>Z a
 | o::r,a=> ∃v,Stays P ops C o v a/\wpP P ops C Z r (a.put o.dst v)
def Xu(K:Act->World->Prop):Exit->Act->World->Prop
 | .normal,a,w=>K a w
 | _,_,_=>False
def Da6(P:Program)(ops:Array Oper)(C:World->Prop)(T:Act->World->Prop):List Oper->Act->World->Prop
 | [],a,w=>C w/\T a w
 | o::r,a,w=>C w/\wpList P ops (Xu (Da6 P ops C T r)) [o] a w
theorem Kq{o:Oper}{a:Act}{w:World}{K K':Act->World->Prop}{J:Act->World->Prop}{Q:Exit->Act->World->Prop}(hk: ∀b u,K b u->K' b u)(h:o.wp P a w K (Xu J)):o.wp P a w K' Q:=by
 unfold Oper.wp at*
 generalize (execOp a.eval o).run P w=r at*
 cases r with
 | ok n w'=>
  cases n<;>simp only[Oper.upon] at h ⊢
  case enter f args=>
   refine Calls.mono h fun e w'' he=> ?_
   cases e with
   | returned u=>exact hk _ _ he
   | panicked c=>exact he.elim
   | outgrown=>obtain⟨_,_,h⟩:=he;exact h.elim
  case row row args=>exact Rows.mono h fun u w'' he=>hk _ _ he
  all_goals exact hk _ _ h
 | halt x w'=>cases x<;>simp only[Oper.upon,Xu] at h ⊢
theorem T0{j:Nat}{o:Oper}{a:Act}{w:World}{K K':Act->World->Prop}{Q:Exit->Act->World->Prop}(hj:ops[j]? =some o)(hk: ∀b u,K b u->K' b u)(h:wpList P ops (Xu K) [o] a w):wpOp P ops Q j K' a w:=by
 unfold wpOp
 unfold wpList at h
 simp only[hj]
 split
 ·rename_i hw
  rw[if_pos hw] at h
  rcases h with h | ⟨_,_,_,h⟩
  ·exact .inl (Kq (fun b u hb=>hk b u hb) h)
  ·exact h.elim
 ·rename_i hw
  rw[if_neg hw] at h
  exact hk _ _ h
theorem N3{K:Act->World->Prop}{Q:Exit->Act->World->Prop}(hk: ∀b u,K b u->Q .normal b u): ∀(l:List Oper) (a:Act) (w:World),wpList P ops (Xu K) l a w->wpList P ops Q l a w
 | [],a,w,h=>hk _ _ h
 | o::r,a,w,h=>by
  unfold wpList at h ⊢
  by_cases hw:Region.wanted o (yielded ops a.tmps)=true
  ·rw[if_pos hw] at h ⊢
   rcases h with h | ⟨_,_,_,h⟩
   ·exact .inl (Kq (fun b u hb=>N3 hk r b u hb) h)
   ·exact h.elim
  ·rw[if_neg hw] at h ⊢
   exact N3 hk r _ _ h
def Am4(md:Region.Mode)(ops:Array Oper)(n g:Nat):List Nat->Array Bool->Bool
 | [],done=>Region.seqB md ops g n done
 | j::js,done=>decide (Region.ready md ops done=[j])&&decide (j<n)&&Am4 md ops n g js (done.setIfInBounds j true)
def Da7(md:Region.Mode)(ops:Array Oper)(n g:Nat)(js:List Nat):List Nat->Array Bool->Bool
 | [],done=>Am4 md ops n g js done
 | i::is,done=>(Region.ready md ops done).contains i&&decide (i<n)&&Region.free md ops done i&&Da7 md ops n g js is (done.setIfInBounds i true)
theorem Xv{Q:Exit->Act->World->Prop}{n g:Nat}{T:Act->World->Prop}(js:List Nat): ∀(l:List Oper) (done:Array Bool) (a:Act) (w:World),js.map (fun i=>ops[i]?)=l.map some->Am4 md ops n g js done=true->Da6 P ops C T l a w->
  headC P md ops C Q n (fun d a' w'=>Region.seqB md ops g n d=true/\T a' w') js.length done a w:=by
 induction js with
 | nil=>
  intro l done a w hl hB h
  cases l with
  | cons o l=>simp at hl
  | nil=>exact⟨h.1,hB,h.2⟩
 | cons j js ih=>
  intro l done a w hl hB h
  cases l with
  | nil=>simp at hl
  | cons o l=>
   simp only[List.map_cons,List.cons.injEq] at hl
   simp only[Am4,Bool.and_eq_true,decide_eq_true_eq] at hB
   obtain⟨⟨hr,hjn⟩,hB2⟩:=hB
   refine⟨h.1,by rw[hr];simp,fun i hi=> ?_⟩
   rw[hr] at hi
   have hij:i=j:=by simpa using hi
   subst hij
   exact⟨hjn,T0 hl.1 (fun b u hb=>ih l _ b u hl.2 hB2 hb) h.2⟩
theorem Rj{Q:Exit->Act->World->Prop}{n g:Nat}{T:Act->World->Prop}{lj:List Oper}(hQ: ∀c a b w,Q (.panic c) a w->Q (.panic c) b w)(hsel:Region.noSelect ops=true)(hs:Region.sinkB md ops n=true)(hc:Region.chainB md ops n=true)(hn:n<ops.size)(js:List Nat)(hj:js.map (fun i=>ops[i]?)=lj.map some)(w:World)(is:List Nat):
    ∀ (l : List Oper) (done : Array Bool) (a : Act), is.map (fun i => ops[i]?) = l.map some → HeadInv md ops n done → Da7 md ops n g js is done = true → wpP P ops C (fun a' => Da6 P ops C T lj a' w) l a →
      headC P md ops C Q n (fun d a' w'=>Region.seqB md ops g n d=true/\T a' w') (is.length+js.length) done a w:=by
  induction is with
  | nil=>
    intro l done a hl inv hB h
    cases l with
    | cons o l=>simp at hl
    | nil=>rw[List.length_nil,Nat.zero_add];exact Xv js lj done a w hj hB h
  | cons i is ih=>
    intro l done a hl inv hB h
    cases l with
    | nil=>simp at hl
    | cons o l=>
      simp only[List.map_cons,List.cons.injEq] at hl
      simp only[Da7,Bool.and_eq_true,decide_eq_true_eq] at hB
      obtain⟨⟨⟨hr,hin⟩,hf⟩,hB2⟩:=hB
      have hr2:i∈Region.ready md ops done:=by simpa using hr
      obtain⟨v,hy,hK⟩:=h
      rw[List.length_cons,Nat.add_right_comm]
      exact Dl (fun c a w=>hQ c _ _ w) hl.1 (Region.noSelect_spec hsel) hs hc hn hin (fun d a' w' hd=>seqB_ready hd.1) (is.length+js.length) done a w inv (Region.free_spec hl.1 hf) hr2 hy
        (ih l _ _ hl.2 (inv.set hr2 hin) hB2 hK)
end
end Go.Proofs.YtbjegfpfmnleeaaGreatDoor
namespace Go.Proofs.YtbjegfpfmnleeaaGreatDoor
open Go.RowKit
variable {df:List Deferred}
set_option maxRecDepth 100000
theorem Cu8{P:Program}{id:Nat}{Q:Exit->Act->World->Prop}{a:Act}{w:World}{l:List Oper}(C:World->Prop)(is js:List Nat)(li lj lt:List Oper)(n:Nat)(hm:P.follows .mixedOrders=true)
  (hli:is.map (fun i=>l.toArray[i]?)=li.map some) (hlj:js.map (fun i=>l.toArray[i]?)=lj.map some) (hst:l.drop n=lt) (hlen:is.length+js.length=n)
  (hB:(Region.noSelect l.toArray&&decide (n<l.length)&&Region.sinkB .any l.toArray n&&Region.chainB .any l.toArray n&&Da7 .any l.toArray n (l.length-n) js is (Array.replicate l.length false))=true)
  (h:wpP P l.toArray C (fun a'=>Da6 P l.toArray C (fun b u=>wpList P l.toArray (Xu (Q .normal)) lt b u) lj a' {w with drawn:=w.drawn+1}) li a):rg P Q a w (.region id l.toArray true):=by
 simp only[Bool.and_eq_true,decide_eq_true_eq] at hB
 obtain⟨⟨⟨⟨hsel,hn⟩,hs⟩,hc⟩,hlex⟩:=hB
 have hn2:n<l.toArray.size:=by simpa using hn
 have inv:HeadInv .any l.toArray n (Array.replicate l.length false):=
  ⟨by simp,fun j oj _ hl=>(by rw[getD_replicate_false] at hl;cases hl),fun t _ ht=>getD_in (by simpa using ht) (getD_replicate_false _ _)⟩
 have H:=Rj (P:=P) (md:=.any) (C:=C) (Q:=NoPanic Q) (T:=fun b u=>wpList P l.toArray (Xu (Q .normal)) lt b u) (g:=l.length-n) (fun c a b w h=>h) hsel hs hc hn2 js hlj {w with drawn:=w.drawn+1} is li _ a hli inv hlex h
 refine⟨hm,NoPanic Q,NoPanic.imp, ?_⟩
 have hdl:(l.drop n).length=l.length-n:=by simp
 have:=Dk (Q:=NoPanic Q) (g:=l.length-n) (fun done a' w' hL=>by
  have hw:wpList P l.toArray (NoPanic Q) (l.drop n) a' w':=by
   rw[hst]
   exact N3 (fun _ _ h=>h) lt a' w' hL.2
  have:=wpAny_of_seq (md:=.any) (Q':=NoPanic Q) (l.drop n) n done a' w' (fun j=>by simp[List.getElem?_drop]) (by rw[hdl];exact hL.1) hw
  rwa [hdl] at this) _ _ a _ H
 rw[hlen,show n+(l.length-n)=l.toArray.size by simp;omega] at this
 exact this
def Et3(P:Program)(C:World->Prop)(l:List (Nat×Value))(k:Value->List Giv->Prop):Op->List Giv->Prop
 | .binOp op _ x y _,.bit b::g=>match Cd5 op (rho l x) (rho l y) with
  | some c=>c=b/\k (.bool b) g
  | none=>False
 | .binOp op t x y _,.val v::g=>(∀w':World,(do eqGuard op t x y (rho l x) (rho l y);binOp op t (rho l x) (rho l y):Sem Value).run P w'=.ok v w')/\k v g
 | .index t x i,.val v::g=>(∀w':World,(Instr.index t (rho l x) (rho l i)).run P w'=.ok v w')/\k v g
 | .indexAddr t x i,.val v::g=>(∀w':World,(Instr.indexAt t (rho l x) (rho l i)).run P w'=.ok v w')/\k v g
 | .slice t x a b c,.val v::g=>(∀w':World,(Instr.sliceAt t (rho l x) (a.map (rho l)) (b.map (rho l)) (c.map (rho l))).run P w'=.ok v w')/\k v g
 | .build t ps,.val v::g=>(∀w':World,(Instr.build t (ps.map fun(i,x)=>(i,rho l x))).run P w'=.ok v w')/\k v g
 | .load t x,.val v::g=>(∀u,C u->(Instr.loadAt t (rho l x)).run P u=.ok v u)/\k v g
 | .lookup t m x c,.val v::g=>(∀u,C u->(Instr.lookup t (rho l m) (rho l x) c).run P u=.ok v u)/\k v g
 | .typeAssert x t d c,.val v::g=>(∀w':World,(Instr.typeAssert (rho l x) t d c).run P w'=.ok v w')/\k v g
 | .binOp op _ x y _,.ari::g=>match Cd6 op (rho l x) (rho l y) with
  | some z=>inK z.1 z.2/\k (.int z.1 z.2) g
  | none=>False
 | _,_=>False
def Vu(P:Program)(C:World->Prop)(l:List (Nat×Value))(o:Oper)(g:List Giv)(k:Value->List Giv->Prop):Prop:=
 match Ak6 o.op,o.op.operands.toList.all (knO l) with
 | false,true=>match Rd P l o with
  | some v=>k v g
  | none=>Et3 P C l k o.op g
 | _,_=>False
theorem V4{P:Program}{C:World->Prop}{l:List (Nat×Value)}{o:Oper}{g:List Giv}{k:Value->List Giv->Prop}{a:Act}(ha:Agr a l)(h:Vu P C l o g k):
    ∃v g',(∀w,C w->o.wp P a w (fun b u=>b=a.put o.dst v/\u=w) (fun _ _ _=>False))/\k v g':=by
  unfold Vu at h
  split at h
  · rename_i hs hkn
    have hsel: ∀cs b,o.op≠.select cs b:=fun cs b e=>by rw[e] at hs;cases hs
    have he:execOp a.eval o=execOp (rho l) o:=execOp_congr o hsel fun x hx=>ha.rho (List.all_eq_true.1 hkn x (by simpa using hx))
    have hval: ∀v g',(∀w',C w'->(execOp (rho l) o).run P w'=.ok (.value v) w')->k v g'->∃v g',(∀w,C w->o.wp P a w (fun b u=>b=a.put o.dst v/\u=w) (fun _ _ _=>False))/\k v g':=fun v g' hr hh=>
      ⟨v, g', fun w hw => by
        unfold Oper.wp
        rw[he,hr w hw]
        exact⟨rfl,rfl⟩,hh⟩
    split at h
    · rename_i v hv
      exact hval v g (fun _ _=>Y7 hv) h
    · generalize ho:o.op=op at h
      unfold Et3 at h
      split at h
      · split at h
        · rename_i c hc
          obtain⟨rfl,h⟩:=h
          exact hval _ _ (fun _ _=>Cx ho hc) h
        · exact h.elim
      · rename_i op' t1 x1 y1 t2 v1 g1
        have h1:=h.1
        exact hval _ _ (fun w' _=>by
          have:execOp (rho l) o=(do pure (.value (<-(do eqGuard op' t1 x1 y1 (rho l x1) (rho l y1);binOp op' t1 (rho l x1) (rho l y1):Sem Value))):Sem Next):=by unfold execOp;rw[ho]
          rw[this,Sem.run_bind,h1 w']
          rfl) h.2
      · exact hval _ _ (fun w' _=>by simp[execOp,ho,h.1]) h.2
      · exact hval _ _ (fun w' _=>by simp[execOp,ho,h.1]) h.2
      · exact hval _ _ (fun w' _=>by simp[execOp,ho,h.1]) h.2
      · exact hval _ _ (fun w' _=>by simp[execOp,ho,h.1]) h.2
      · exact hval _ _ (fun w' hw'=>by simp[execOp,ho,h.1 w' hw']) h.2
      · exact hval _ _ (fun w' hw'=>by simp[execOp,ho,h.1 w' hw']) h.2
      · exact hval _ _ (fun w' _=>by simp[execOp,ho,h.1]) h.2
      · split at h
        · rename_i z hz
          exact hval _ _ (fun _ _=>Cy ho hz h.1) h.2
        · exact h.elim
      · exact h.elim
  · exact h.elim
def evE(P:Program)(n:Nat)(ops:Array Oper)(C:World->Prop):List Oper->List Giv->List (Nat×Value)->(List (Nat×Value)->Prop)->Prop
 | [],_,l,K=>K l
 | o::r,g,l,K=>match o.dst,gdL ops l o with
  | some d,some true=>match decide (d<n) with
   | true=>Vu P C l o g (fun v g'=>evE P n ops C r g' ((d,v)::l) K)
   | false=>False
  | _,_=>False
theorem Az0{P:Program}{n:Nat}{ops:Array Oper}{C:World->Prop}{Z:Act->Prop}: ∀(r:List Oper) (g:List Giv) (l:List (Nat×Value)) (K:List (Nat×Value)->Prop) (a:Act),
  a.tmps.size=n->a.defers=df->Agr a l->evE P n ops C r g l K->
  (∀a' l',a'.tmps.size=n->a'.defers=df->Agr a' l'->(∀k,some k∉r.map (·.dst)->F9 a' k=F9 a k)->K l'->Z a')->wpP P ops C Z r a
 | [],g,l,K,a,h1,h2,h3,h,hZ=>hZ a l h1 h2 h3 (fun _ _=>rfl) h
 | o::r,g,l,K,a,h1,h2,h3,h,hZ=>by
  unfold evE at h
  split at h
  ·rename_i d hd hg
   split at h
   ·rename_i hdn
    have hdn:d<n:=by simpa using hdn
    obtain⟨v,g',hw,hh⟩:=V4 h3 h
    refine⟨v,⟨by rw[F7 h3 hg],⟨d,hd,by rw[h1];exact hdn⟩,hw⟩, ?_⟩
    have hag:Agr (a.put o.dst v) ((d,v)::l):=by
     have:=L5 (d:=some d) (v:=v) h3 h1 (by simpa[Q2] using hdn)
     rw[hd]
     exact this
    exact Az0 r g' _ K (a.put o.dst v) ((F3 _ _ _).trans h1) ((put_defers _ _ _).trans h2) hag hh fun a' l' q1 q2 q3 q4 q5=>
     hZ a' l' q1 q2 q3 (fun k hk=>(q4 k (fun hm=>hk (List.mem_cons_of_mem _ hm))).trans (M0 a _ v k fun e=>hk (by rw[List.map_cons,e];exact List.mem_cons_self))) q5
   ·exact h.elim
  ·exact h.elim
def evF(P:Program)(n:Nat)(ops:Array Oper)(C:World->Prop):List Oper->List Giv->List (Nat×Value)->World->(List (Nat×Value)->World->List Giv->Prop)->Prop
 | [],g,l,w,K=>C w/\K l w g
 | o::r,g,l,w,K=>C w/\match Q2 n o.dst,gdL ops l o with
  | true,some true=>Ak7 P l w o g (fun v w' g'=>evF P n ops C r g' (Eu o.dst v l) w' K)
  | _,_=>False
theorem Az1{P:Program}{n:Nat}{ops:Array Oper}{C:World->Prop}{T:Act->World->Prop}: ∀(r:List Oper) (g:List Giv) (l:List (Nat×Value)) (w:World) (K:List (Nat×Value)->World->List Giv->Prop) (a:Act),
  a.tmps.size=n->a.defers=df->Agr a l->evF P n ops C r g l w K->
  (∀a' l' w' g',a'.tmps.size=n->a'.defers=df->Agr a' l'->(∀k,some k∉r.map (·.dst)->F9 a' k=F9 a k)->K l' w' g'->T a' w')->Da6 P ops C T r a w
 | [],g,l,w,K,a,h1,h2,h3,h,hT=>⟨h.1,hT a l w g h1 h2 h3 (fun _ _=>rfl) h.2⟩
 | o::r,g,l,w,K,a,h1,h2,h3,h,hT=>by
  refine⟨h.1, ?_⟩
  have h:=h.2
  split at h
  ·rename_i hd hg
   refine wpList_step fun N hN=> ?_
   rw[if_pos (by rw[F7 h3 hg])]
   refine V8 h3 h fun v w' g' hh=>hN _ _ ?_
   refine Az1 r g' _ w' K (a.put o.dst v) ((F3 _ _ _).trans h1) ((put_defers _ _ _).trans h2) (L5 h3 h1 hd) hh fun a' l' w'' g'' q1 q2 q3 q4 q5=>
    hT a' l' w'' g'' q1 q2 q3 (fun k hk=>(q4 k (fun hm=>hk (List.mem_cons_of_mem _ hm))).trans (M0 a _ v k fun e=>hk (by rw[List.map_cons,e];exact List.mem_cons_self))) q5
  ·exact h.elim
def Et(ops:List Oper):List Nat->List Oper
 | []=>[]
 | i::r=>match ops[i]? with
  | some o=>o::Et ops r
  | none=>Et ops r
theorem Cp{ops:List Oper}: ∀(is:List Nat),is.all (fun i=>decide (i<ops.length))=true->is.map (fun i=>ops.toArray[i]?)=(Et ops is).map some
 | [],_=>rfl
 | i::r,h=>by
  simp only[List.all_cons,Bool.and_eq_true,decide_eq_true_iff] at h
  unfold Et
  rw[List.getElem?_eq_getElem h.1]
  simp only[List.map_cons]
  rw[<-Cp r h.2]
  simp[h.1]
theorem X7{ops:List Oper}: ∀(is:List Nat),∀o∈Et ops is,o∈ops
 | [],o,h=>by cases h
 | i::r,o,h=>by
  unfold Et at h
  split at h
  ·rename_i o' ho
   rcases List.mem_cons.1 h with rfl | h
   ·exact List.mem_of_getElem? ho
   ·exact X7 r o h
  ·exact X7 r o h
def Et4(ops:List Oper)(is js:List Nat)(n:Nat):Bool:=
 is.all (fun i=>decide (i<ops.length))&&js.all (fun i=>decide (i<ops.length))&&decide (is.length+js.length=n)&&
 (Region.noSelect ops.toArray&&decide (n<ops.length)&&Region.sinkB .any ops.toArray n&&Region.chainB .any ops.toArray n&&Da7 .any ops.toArray n (ops.length-n) js is (Array.replicate ops.length false))
def Et5(P:Program)(n k:Nat)(is js ds:List Nat)(C:World->Prop)(g1 g2:List Giv)(l0:List (Nat×Value))(w:World)(K:List (Nat×Value)->World->Prop):Code->Prop
 | .region _ ⟨ops⟩ true=>match Be ds ops,P.follows .mixedOrders,Et4 ops is js k with
  | true,true,true=>evE P n ⟨ops⟩ C (Et ops is) g1 l0 (fun l1=>evF P n ⟨ops⟩ C (Et ops js) g2 l1 (w.drewN 1) (fun l2 w2 g3=>evL P n ⟨ops⟩ (ops.drop k) g3 l2 w2 K))
  | _,_,_=>False
 | _=>False
theorem Dn5{P:Program}{n:Nat}{a:Act}{w:World}{l l0:List (Nat×Value)}{c:Code}{N:Act->World->Prop}{Q:Exit->Act->World->Prop}{T:Prop}(k:Nat)(is js:List Nat)(C:World->Prop)(keep ds:List Nat)(g1 g2:List Giv)(hs:Sl n a l df)(h0:AllL l l0)(hT:T)
  (he:T=Et5 P n k is js ds C g1 g2 l0 w (fun l1 w'=> ∀a',Sl n a' (Re keep l1 (A6 ds l)) df->N a' w') c):rg P (Exit.then N Q) a w c:=by
 rw[he] at hT
 unfold Et5 at hT
 split at hT
 ·rename_i id ops
  split at hT
  ·rename_i hd hm hB
   unfold Et4 at hB
   simp only[Bool.and_eq_true] at hB
   obtain⟨⟨⟨b1,b2⟩,b3⟩,b4⟩:=hB
   have hno: ∀p∈A6 ds l,∀o∈ops,o.dst≠some p.1:=fun p hp o ho e=>by
    obtain⟨_,hp2⟩:=List.mem_filter.1 hp
    exact I3 hd p.1 (by simpa using hp2) (List.mem_map.2 ⟨o,ho,e⟩)
   refine Cu8 C is js (Et ops is) (Et ops js) (ops.drop k) k hm (Cp is b1) (Cp js b2) rfl (by simpa using b3) (by simpa using b4) ?_
   refine Az0 _ g1 l0 _ a hs.size hs.defers (hs.to h0).agr hT ?_
   intro a1 l1 p1 p2 p3 p4 p5
   refine Az1 _ g2 l1 _ _ a1 p1 p2 p3 p5 ?_
   intro a2 l2 w2 g3 r1 r2 r3 r4 r5
   refine Kf (ops.drop k) g3 l2 w2 _ a2 r1 r2 r3 r5 ?_
   intro a' l' w' q1 q2 q3 q4 q5
   refine q5 a' (O9 q3 keep ⟨q1,q2,fun p hp=> ?_⟩)
   have hn:=hno p hp
   rw[q4 p.1 (fun hm=>by obtain⟨o,ho,e⟩:=List.mem_map.1 hm;exact hn o (List.mem_of_mem_drop ho) e),r4 p.1 (fun hm=>by obtain⟨o,ho,e⟩:=List.mem_map.1 hm;exact hn o (X7 js o ho) e),
    p4 p.1 (fun hm=>by obtain⟨o,ho,e⟩:=List.mem_map.1 hm;exact hn o (X7 is o ho) e)]
   exact hs.known p (List.mem_filter.1 hp).1
  ·exact hT.elim
 ·exact hT.elim
end Go.Proofs.YtbjegfpfmnleeaaGreatDoor
namespace Go.Proofs.YtbjegfpfmnleeaaGreatDoor
open Go.RowKit
set_option maxRecDepth 100000
section
variable {P:Program} {fn:Func} {R:Ending->World->Prop} {a:Act} {w:World} {n t u c d ty ty':Nat} {l:List (Nat×Value)} {v x z y:Value} {p p':Addr}
theorem Wo(h:Lds P ty (.pointer (some p)) z w):(loadVar ty p).run P w=.ok z w:=by
 have:=h.run
 simpa[Instr.loadAt,Instr.sureAddr] using this
theorem Ct(hs:Sl n a l)(e:l.lookup t=some v):a.tmps[t]?.getD undef=v:=by
 have:=hs.look t e
 unfold F9 at this
 rwa [Array.getD_eq_getD_getElem?] at this
theorem Kd(hr:fn.results=#[.cell c ty,.tmp t])(hs:Sl n a l)(e3:l.lookup c=some (.pointer (some p)))(e1:l.lookup t=some v)(hl:Lds P ty (.pointer (some p)) z w)(h:R (.returned (.tuple #[z,v])) w):bodyPost P fn R .ret a w:=
 bodyPost_ret (v:=.tuple #[z,v]) (by
  simp[results,hr,Ct hs e1,Ct hs e3,asAddr,Wo hl]) hs.defers h
end
structure Dm where
 pa:Option Addr
 pc:Nat
 ia:Option Addr
 ic:Nat
structure S3 where
 d:Option Addr
 n:Nat
 c:Nat
def S3.v(s:S3):Value:=.slice s.d s.n s.c
structure Dt where
 h:Hd
 k:Fo
def Dt.cs(d:Dt)(m:Dm):Array Value:=d.h.cells m.pa m.pc m.ia d.k.len m.ic
structure Dt.ok (d:Dt):Prop where
 h:d.h.ok
 k:d.k.ok
 len:d.k.len<=1034834473170
def Dt.at(d:Dt)(w:World)(S:Nat->Prop)(m:Dm):Prop:=DatAt w S d.h d.k m.pa m.pc m.ia m.ic
theorem Dt.at.keep{d:Dt}{w w':World}{S S':Nat->Prop}{m:Dm}(h:d.at w S m)(hk: ∀b,S b->b<w.heap.size->w'.heap[b]? =w.heap[b]?)(hS: ∀b,S b->b<w.heap.size->S' b):d.at w' S' m:=DatAt.keep h hk hS
theorem Dt.at.old{d:Dt}{w w':World}{S:Nat->Prop}{m:Dm}(h:d.at w S m)(hb:Below w.heap.size w w'):d.at w' S m:=DatAt.keep h (fun b _ h=>hb.block b h) (fun _ h _=>h)
theorem Dt.cs_size(d:Dt)(m:Dm):(d.cs m).size=11:=rfl
theorem K5: ∀(vs:List Value) (cs:Array Value) (o:Nat),(vs.foldl (fun(p:Array Value×Nat) v=>(p.1.setIfInBounds p.2 v,p.2+1)) (cs,o)).1.size=cs.size
 | [],_,_=>rfl
 | v::r,cs,o=>(K5 r _ _).trans (by simp)
theorem Gy{P:Program}{fn:Func}{R:Ending->World->Prop}{a:Act}{w:World}{n c:Nat}{l:List (Nat×Value)}{ty:TypeId}{p:Addr}{z:Value}(hr:fn.results=#[.cell c ty])(hs:Sl n a l)(e3:l.lookup c=some (.pointer (some p)))(hl:Lds P ty (.pointer (some p)) z w)(h:R (.returned z) w):bodyPost P fn R .ret a w:=
 bodyPost_ret (v:=z) (by simp[results,hr,Ct hs e3,asAddr,Wo hl]) hs.defers h
theorem J2{P:Program}{t e:TypeId}{sz b o n cap:Nat}(k:Nat)(ht:P.underlying t=some (.slice e))(hi:(P.info? e).map (·.size)=some sz)(hk:k<n)(w:World):
  (Instr.indexAt t (.slice (some ⟨b,o,none⟩) n cap) (.int .i64 (k:Int))).run P w=.ok (.pointer (some ⟨b,o+k*sz,none⟩)) w:=by
 obtain⟨i,hi1,hi2⟩:=Option.map_eq_some_iff.1 hi
 have ha:(⟨b,o,none⟩:Addr).add (k*sz)=⟨b,o+k*sz,none⟩:=by
  unfold Addr.add
  split
  ·rename_i h;simp[h]
  ·rfl
 simp[Instr.indexAt,asIntOf,run_underlying ht,sizeOf,typeInfo,hi1,hi2,ha]
 omega
theorem A8{id:Nat}{K:Act->World->Prop}{Q:Exit->Act->World->Prop}{a:Act}{w:World}(h:Q (.exit id) a w):Exit.then K Q (.exit id) a w:=h
theorem B8{id:Nat}{Q:Exit->Act->World->Prop}{a:Act}{w:World}(h:Q .normal a w):Exit.inBlock id Q (.exit id) a w:=by simpa[Exit.inBlock] using h
end Go.Proofs.YtbjegfpfmnleeaaGreatDoor
namespace Go.Proofs.YtbjegfpfmnleeaaGreatDoor
open Go.RowKit
variable {df:List Deferred}
set_option maxRecDepth 100000
def Eu3(P:Program)(C:World->Prop)(l:List (Nat×Value))(k:Value->List Giv->Prop):Op->List Giv->Prop
 | .binOp op _ x y _,.bit b::g=>match Cd5 op (rho l x) (rho l y) with
  | some c=>c=b/\k (.bool b) g
  | none=>False
 | .binOp op t x y _,.bin v::g=>(∀w':World,(do eqGuard op t x y (rho l x) (rho l y);binOp op t (rho l x) (rho l y):Sem Value).run P w'=.ok v w')/\k v g
 | .index t x i,.val v::g=>(∀w':World,(Instr.index t (rho l x) (rho l i)).run P w'=.ok v w')/\k v g
 | .indexAddr t x i,.val v::g=>(∀w':World,(Instr.indexAt t (rho l x) (rho l i)).run P w'=.ok v w')/\k v g
 | .slice t x a b c,.val v::g=>(∀w':World,(Instr.sliceAt t (rho l x) (a.map (rho l)) (b.map (rho l)) (c.map (rho l))).run P w'=.ok v w')/\k v g
 | .convert s d x,.val v::g=>(∀w':World,(convert s d (rho l x)).run P w'=.ok v w')/\k v g
 | .load t x,.val v::g=>(∀u,C u->(Instr.loadAt t (rho l x)).run P u=.ok v u)/\k v g
 | .lookup t m x c,.val v::g=>(∀u,C u->(Instr.lookup t (rho l m) (rho l x) c).run P u=.ok v u)/\k v g
 | .typeAssert x t d c,.val v::g=>(∀w':World,(Instr.typeAssert (rho l x) t d c).run P w'=.ok v w')/\k v g
 | .call c,.val v::g=>(∀u,C u->Cv P l u c (fun e w'=>e=.returned v/\C w'))/\k v g
 | .binOp op _ x y _,.ari::g=>match Cd6 op (rho l x) (rho l y) with
  | some z=>inK z.1 z.2/\k (.int z.1 z.2) g
  | none=>False
 | _,_=>False
def Bp4(P:Program)(C:World->Prop)(l:List (Nat×Value))(o:Oper)(g:List Giv)(k:Value->List Giv->Prop):Prop:=
 match Ak6 o.op,o.op.operands.toList.all (knO l) with
 | false,true=>match Rd P l o with
  | some v=>k v g
  | none=>Eu3 P C l k o.op g
 | _,_=>False
theorem Mq{P:Program}{C:World->Prop}{l:List (Nat×Value)}{o:Oper}{g:List Giv}{k:Value->List Giv->Prop}{a:Act}{N:Act->Prop}(ha:Agr a l)(h:Bp4 P C l o g k)
    (hk: ∀v g',k v g'->N (a.put o.dst v)):o.quiet P a C N:=by
  unfold Bp4 at h
  split at h
  · rename_i hs hkn
    have hsel: ∀cs b,o.op≠.select cs b:=fun cs b e=>by rw[e] at hs;cases hs
    have he:execOp a.eval o=execOp (rho l) o:=execOp_congr o hsel fun x hx=>ha.rho (List.all_eq_true.1 hkn x (by simpa using hx))
    have hval: ∀v g',(∀w':World,C w'->(execOp (rho l) o).run P w'=.ok (.value v) w')->k v g'->o.quiet P a C N:=fun v g' hr hh=>
      ⟨v, fun w' hw => by
        unfold Oper.quietAt
        rw[he,hr w' hw]
        exact⟨rfl,rfl⟩,hk v g' hh⟩
    split at h
    · rename_i v hv
      exact hval v g (fun _ _=>Y7 hv) h
    · generalize ho:o.op=op at h
      unfold Eu3 at h
      split at h
      · split at h
        · rename_i c hc
          obtain⟨rfl,h⟩:=h
          exact hval _ _ (fun _ _=>Cx ho hc) h
        · exact h.elim
      · rename_i op' t1 x1 y1 t2 v1 g1
        have h1:=h.1
        exact hval _ _ (fun w' _=>by
          have:execOp (rho l) o=(do pure (.value (<-(do eqGuard op' t1 x1 y1 (rho l x1) (rho l y1);binOp op' t1 (rho l x1) (rho l y1):Sem Value))):Sem Next):=by unfold execOp;rw[ho]
          rw[this,Sem.run_bind,h1 w']
          rfl) h.2
      · exact hval _ _ (fun w' _=>by simp[execOp,ho,h.1]) h.2
      · exact hval _ _ (fun w' _=>by simp[execOp,ho,h.1]) h.2
      · exact hval _ _ (fun w' _=>by simp[execOp,ho,h.1]) h.2
      · exact hval _ _ (fun w' _=>by simp[execOp,ho,h.1]) h.2
      · exact hval _ _ (fun w' hw=>by simp[execOp,ho,h.1 w' hw]) h.2
      · exact hval _ _ (fun w' hw=>by simp[execOp,ho,h.1 w' hw]) h.2
      · exact hval _ _ (fun w' _=>by simp[execOp,ho,h.1]) h.2
      · rename_i c v1 g1
        refine⟨v1,fun w' hw'=> ?_,hk _ _ h.2⟩
        obtain⟨i,hr,hC⟩:=Bv ho (h.1 w' hw')
        unfold Oper.quietAt
        rw[he,hr]
        exact⟨rfl,hC⟩
      · split at h
        · rename_i z hz
          exact hval _ _ (fun _ _=>Cy ho hz h.1) h.2
        · exact h.elim
      · exact h.elim
  · exact h.elim
def evB(P:Program)(n:Nat)(ops:Array Oper)(C:World->Prop):List Oper->List Giv->List (Nat×Value)->(List (Nat×Value)->Prop)->Prop
 | [],_,l,K=>K l
 | o::r,g,l,K=>match Q2 n o.dst,gdL ops l o with
  | true,some true=>Bp4 P C l o g (fun v g'=>evB P n ops C r g' (Eu o.dst v l) K)
  | true,some false=>evB P n ops C r g (Eu o.dst undef l) K
  | _,_=>False
theorem Az6{P:Program}{n:Nat}{ops:Array Oper}{C:World->Prop}{Q:Act->Prop}: ∀(r:List Oper) (g:List Giv) (l:List (Nat×Value)) (K:List (Nat×Value)->Prop) (a:Act),
  a.tmps.size=n->a.defers=df->Agr a l->evB P n ops C r g l K->
  (∀a' l',a'.tmps.size=n->a'.defers=df->Agr a' l'->(∀k,some k∉r.map (·.dst)->F9 a' k=F9 a k)->K l'->Q a')->wpQuiet P ops C Q r a
 | [],g,l,K,a,h1,h2,h3,h,hQ=>hQ a l h1 h2 h3 (fun _ _=>rfl) h
 | o::r,g,l,K,a,h1,h2,h3,h,hQ=>by
  unfold evB at h
  have next: ∀v g',Q2 n o.dst=true->evB P n ops C r g' (Eu o.dst v l) K->wpQuiet P ops C Q r (a.put o.dst v):=fun v g' hd hh=>
   Az6 r g' _ K (a.put o.dst v) ((F3 _ _ _).trans h1) ((put_defers _ _ _).trans h2) (L5 h3 h1 hd) hh fun a' l' q1 q2 q3 q4 q5=>
    hQ a' l' q1 q2 q3 (fun k hk=>(q4 k (fun hm=>hk (List.mem_cons_of_mem _ hm))).trans (M0 a _ v k fun e=>hk (by rw[List.map_cons,e];exact List.mem_cons_self))) q5
  split at h
  ·rename_i hd hg
   refine wpQuiet_step fun N hN=> ?_
   rw[if_pos (by rw[F7 h3 hg])]
   exact Mq h3 h fun v g' hh=>hN _ (next v g' hd hh)
  ·rename_i hd hg
   refine wpQuiet_step fun N hN=> ?_
   rw[if_neg (by rw[F7 h3 hg];simp)]
   exact hN _ (next undef g hd h)
  ·exact h.elim
def Eu4(P:Program)(n:Nat)(ds:List Nat)(C:World->Prop)(w:World)(g:List Giv)(l0:List (Nat×Value))(K:List (Nat×Value)->Prop):Code->Prop
 | .region _ ops true=>match Be ds ops.toList,P.follows .mixedOrders,Region.lexB .any ops with
  | true,true,true=>C (w.drewN 1)/\evB P n ops C ops.toList g l0 K
  | _,_,_=>False
 | _=>False
theorem Eu5{P:Program}{n:Nat}{a:Act}{w:World}{l l0:List (Nat×Value)}{c:Code}{N:Act->World->Prop}{Q:Exit->Act->World->Prop}{T:Prop}(C:World->Prop)(keep ds:List Nat)(g:List Giv)(hs:Sl n a l df)(h0:AllL l l0)(hT:T)
  (he:T=Eu4 P n ds C w g l0 (fun l1=> ∀a' u,C u->Sl n a' (Re keep l1 (A6 ds l)) df->N a' u) c):rg P (Exit.then N Q) a w c:=by
 rw[he] at hT
 unfold Eu4 at hT
 split at hT
 ·rename_i id ops
  split at hT
  ·rename_i hd hm hl
   refine Oe (C:=C) hm hl hT.1 (Az6 ops.toList g l0 _ a hs.size hs.defers (hs.to h0).agr hT.2 ?_)
   rintro a' l' q1 q2 q3 q4 q5 w' hw
   refine q5 a' w' hw (O9 q3 keep ⟨q1,q2,fun p hp=> ?_⟩)
   unfold A6 at hp
   obtain⟨hp1,hp2⟩:=List.mem_filter.1 hp
   rw[q4 p.1 (I3 hd p.1 (by simpa using hp2))]
   exact hs.known p hp1
  ·exact hT.elim
 ·exact hT.elim
abbrev pT(g:Nat):Value:=.pointer (some ⟨g,0,none⟩)
abbrev pF(g o:Nat):Value:=.pointer (some ⟨g,o,none⟩)
abbrev ii(x:Int):Value:=.int .i64 x
abbrev Lk(l:List (Nat×Value))(k:Nat)(v:Value):Prop:=l.lookup k=some v
abbrev Lp(t:TypeId)(x v:Value)(w:World):Prop:=Lds Tryz.prog t x v w
abbrev Ix(t:TypeId)(x i p:Value):Prop:= ∀w,(Instr.indexAt t x i).run Tryz.prog w=.ok p w
abbrev So(t:TypeId)(g o:Nat)(v:Value)(w:World)(vs:List Value):Prop:=(Instr.storeAt t (.pointer (some ⟨g,o,none⟩)) v).run Tryz.prog w=.ok () (w.setCells g o vs)
abbrev Ca(f:FuncId)(xs:Array Value)(w:World)(R:Ending->World->Prop):Prop:=Calls Tryz.prog f xs w R
abbrev Cl(f:FuncId)(xs:Array Value)(w:World)(v:Value)(C:World->Prop):Prop:=Calls Tryz.prog f xs w fun e w'=>e=.returned v/\C w'
abbrev Rg(N:Act->World->Prop)(Q:Exit->Act->World->Prop)(a:Act)(w:World)(c:Code):Prop:=rg Tryz.prog (Exit.then N Q) a w c
abbrev zA:Array Value:=#[.int .i64 0,.string ⟨#[]⟩,.int .i64 0,.int .u64 0,.string ⟨#[]⟩,.int .i64 0,.int .i64 0,.int .i64 0,.int .i64 0,.slice none 0 0,.slice none 0 0]
theorem aI{a b:Prop}(x:a)(y:b):a/\b:=⟨x,y⟩
abbrev ZA:Array Value:=#[.int .i64 0,.string ⟨#[]⟩,.int .i64 0,.int .u64 0,.string ⟨#[]⟩,.int .i64 0,.int .i64 0,.int .i64 0,.int .i64 0,.slice none 0 0,.slice none 0 0,.int .i64 0,.string ⟨#[]⟩,.int .i64 0,.int .u64 0,.string ⟨#[]⟩,.int .i64 0,.int .i64 0,.int .i64 0,.int .i64 0,.slice none 0 0,.slice none 0 0]
end Go.Proofs.YtbjegfpfmnleeaaGreatDoor
namespace Go.Proofs.YtbjegfpfmnleeaaGreatDoor
open Go.RowKit Go.Sort
set_option maxRecDepth 100000
variable {a:Act} {w:World} {df:List Deferred} {N:Act->World->Prop} {Q:Exit->Act->World->Prop} {l:List (Nat×Value)}
end Go.Proofs.YtbjegfpfmnleeaaGreatDoor
