/-
   Written by an AI agent.
-/
import Derived.Test.YtbjegfpfmnleeaaGreatDoorProg
import Derived.Test.YtbjegfpfmnleeaaGreatDoorPk04
import Derived.Maps.OwnSet
import Derived.Maps.Views
import Derived.MapViews
import Derived.Lib.SlKeysI
namespace Go.Proofs.YtbjegfpfmnleeaaGreatDoor
open Go.RowKit Go.Maps
abbrev IM:=List (Int×Value)
def heldR(v:Value):Option (DataW Value×List MemPlace):=some (.held v,[])
def mE(p:Int×Value):Lit×DataW Value:=(.int .i64 p.1,.held p.2)
def mD(M:IM):DataW Value:=.map (M.map mE)
def imIns(k:Int)(v:Value):IM->IM
 | []=>[(k,v)]
 | y::r=>if k<y.1 then(k,v)::y::r else y::imIns k v r
def imDel(k:Int)(M:IM):IM:=M.filter fun p=> !decide (p.1=k)
def imPut(k:Int)(v:Value)(M:IM):IM:=imIns k v (imDel k M)
def imGet(k:Int)(M:IM):Option Value:=(M.find? fun p=>decide (p.1=k)).map (·.2)
theorem mD_ins(k:Int)(v:Value): ∀M:IM,DataW.insert (mE (k,v)) (M.map mE)=(imIns k v M).map mE
 | []=>rfl
 | y::r=>by
  by_cases h:k<y.1
  ·simp[DataW.insert,imIns,h,mE,Lit.before]
  ·have ih:=mD_ins k v r
   simp only[List.map_cons,DataW.insert,imIns,if_neg h]
   rw[if_neg (by simp[mE,Lit.before,h]),ih]
theorem same_mE(p:Int×Value)(k:Int):(mE p).1.sameKey (.int .i64 k)=decide (p.1=k):=by simp[mE,Lit.sameKey]
theorem mD_filter(k:Int)(M:IM):(M.map mE).filter (fun p=> !p.1.sameKey (.int .i64 k))=(imDel k M).map mE:=by
 rw[List.filter_map]
 congr 1
 apply List.filter_congr
 intro p _
 simp[same_mE]
theorem mD_put(k:Int)(v:Value)(M:IM):(mD M).put (.int .i64 k) (.held v)=mD (imPut k v M):=by
 show DataW.map (DataW.insert (mE (k,v)) ((M.map mE).filter fun p=> !p.1.sameKey (.int .i64 k)))=_
 rw[mD_filter,mD_ins]
 rfl
theorem mD_del(k:Int)(M:IM):(mD M).del (.int .i64 k)=mD (imDel k M):=by
 show DataW.map ((M.map mE).filter fun p=> !p.1.sameKey (.int .i64 k))=_
 rw[mD_filter]
 rfl
theorem mD_find(k:Int)(M:IM):(M.map mE).find? (fun p=>p.1.sameKey (.int .i64 k))=(M.find? fun p=>decide (p.1=k)).map mE:=by
 rw[List.find?_map]
 congr 1
 congr 1
 funext p
 exact same_mE p k
theorem mD_at(k:Int)(z:Value)(M:IM):(mD M).atKey (.int .i64 k) (.held z)=.held ((imGet k M).getD z):=by
 unfold DataW.atKey mD
 simp only[mD_find,imGet]
 cases M.find? (fun p=>decide (p.1=k))<;>rfl
theorem mD_has(k:Int)(M:IM):Maps.has (mD M) (.int .i64 k)=(imGet k M).isSome:=by
 show(M.map mE).any (fun p=>p.1.sameKey (.int .i64 k))=_
 rw[imGet,Option.isSome_map,Bool.eq_iff_iff,List.find?_isSome,List.any_eq_true]
 constructor
 ·rintro⟨q,hq,h⟩
  obtain⟨p,hp,rfl⟩:=List.mem_map.1 hq
  exact⟨p,hp,(same_mE p k).symm.trans h⟩
 ·rintro⟨p,hp,h⟩
  exact⟨mE p,List.mem_map_of_mem hp,(same_mE p k).trans h⟩
theorem mD_keys(M:IM):intKeys (mD M)=M.map (·.1):=by
 show(M.map mE).map _=_
 rw[List.map_map]
 rfl
theorem mD_size(M:IM):Maps.size (mD M)=M.length:=by
 show(M.map mE).length=_
 simp
def MapI(w:World)(b n:Nat)(M:IM):Prop:=w.ownsMap Tryz.prog 3 heldR b n (mD M)
theorem int_k:Keyed Tryz.prog 3:=int_keyed (q:=.i64) Tryz.underlying3
theorem key_k{k:Int}(h: -9223372036854775808<=k/\k<=9223372036854775807):keyOf Tryz.prog 3 (.int .i64 k)=some (.int .i64 k):=
 keyOf_int_mk (q:=.i64) Tryz.underlying3 (by
  have e1:IntKind.i64.min= -9223372036854775808:=by decide
  have e2:IntKind.i64.max=9223372036854775807:=by decide
  simp only[Lit.wf,e1,e2,Bool.and_eq_true,decide_eq_true_eq]
  exact h)
variable {w:World} {b n:Nat} {M:IM} {t e:TypeId} {z:Value} {k:Int}
theorem heldR_inj{v x:Value}{ps:List MemPlace}(h:heldR v=some (.held x,ps)):v=x:=by
 simp[heldR] at h
 exact h.1
theorem MapI.look(h:MapI w b n M)(ht:Tryz.prog.underlying t=some (.map 3 e))(hz: ∀w,(zeroValue e).run Tryz.prog w=.ok z w)(hk: -9223372036854775808<=k/\k<=9223372036854775807):
  Lkp Tryz.prog t (.map (some b)) (.int .i64 k) false ((imGet k M).getD z) w:=fun m=>by
 obtain⟨v,ps,hr,hv⟩:=World.ownsMap.lookup (w:=w.drewN m) h int_k ht (hz _) (zd:=.held z) (zp:=[]) rfl (key_k hk)
 rw[mD_at] at hv
 rw[heldR_inj hv] at hr
 exact hr
theorem MapI.look2(h:MapI w b n M)(ht:Tryz.prog.underlying t=some (.map 3 e))(hz: ∀w,(zeroValue e).run Tryz.prog w=.ok z w)(hk: -9223372036854775808<=k/\k<=9223372036854775807):
  Lkp Tryz.prog t (.map (some b)) (.int .i64 k) true (.tuple #[(imGet k M).getD z,.bool (imGet k M).isSome]) w:=fun m=>by
 obtain⟨v,ps,hr,hv⟩:=World.ownsMap.look_ok (w:=w.drewN m) h int_k ht (hz _) (zd:=.held z) (zp:=[]) rfl (key_k hk)
 rw[mD_at] at hv
 rw[heldR_inj hv,mD_has] at hr
 exact hr
theorem MapI.store(h:MapI w b n M)(ht:Tryz.prog.underlying t=some (.map 3 e))(hn:n<maxLen)(hk: -9223372036854775808<=k/\k<=9223372036854775807)(v:Value):
  ∃w',(Instr.mapUpdate t (.map (some b)) (.int .i64 k) v).run Tryz.prog w=.ok () w'/\MapI w' b (n+1) (imPut k v M)/\w.mapTurned w' b:=by
 obtain⟨w',hr,ho,hm⟩:=World.ownsMap.store h int_k ht hn (key_k hk) (val:=v) (d:=.held v) (ps:=[]) rfl
 rw[mD_put] at ho
 exact⟨w',hr,ho,hm⟩
theorem MapI.drop(h:MapI w b n M)(ht:Tryz.prog.underlying t=some (.map 3 e))(hk: -9223372036854775808<=k/\k<=9223372036854775807)(ty:TypeId):
  ∃w',(Builtin.delete_ #[t,3] ty #[.map (some b),.int .i64 k]).run Tryz.prog w=.ok (.tuple #[]) w'/\MapI w' b n (imDel k M)/\w.mapTurned w' b:=by
 obtain⟨w',hr,ho,hm⟩:=World.ownsMap.drop h int_k ht (key_k hk) ty
 rw[mD_del] at ho
 exact⟨w',hr,ho,hm⟩
theorem MapI.made(w:World):MapI (w.alloc (.map #[] 0)) w.heap.size 0 []:=World.ownsMap_made w _ _ _
theorem MapI.keep{w':World}(h:MapI w b n M)(hk:w'.heap[b]? =w.heap[b]?):MapI w' b n M:=by
 obtain⟨es,clock,hb,r⟩:=h
 exact⟨es,clock,hk.trans hb,r⟩
end Go.Proofs.YtbjegfpfmnleeaaGreatDoor
