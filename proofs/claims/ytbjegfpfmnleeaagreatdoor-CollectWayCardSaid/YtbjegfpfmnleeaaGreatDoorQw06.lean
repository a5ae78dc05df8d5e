/-
   Written by an AI agent.
-/
import Derived.Test.YtbjegfpfmnleeaaGreatDoorProg
import Derived.Test.YtbjegfpfmnleeaaGreatDoorQw04
import Derived.WalkKit
import Derived.Laws.Cover2
import Derived.WalkLawsBesides
import Derived.WalkSpells
namespace Go.Proofs.YtbjegfpfmnleeaaGreatDoor
open Go.RowKit
set_option maxRecDepth 100000
structure En where
 g:Nat
 key:Dt
 val:Dt
 hash:Int
 own:Bool
def En.p(e:En):Addr:=⟨e.g,0,none⟩
def pO(o:Option En):Option Addr:=o.map En.p
def cs27(k v:Dt)(mk mv:Dm)(h:Int)(nx bf af:Option Addr)(ow:Bool):Array Value:=⟨[.int .i64 k.h.kind,.string k.h.type,.int .i64 k.h.n,.int .u64 k.h.f,.string k.h.s,.int .i64 k.h.obj,.int .i64 k.h.frm,.int .i64 k.h.len,.int .i64 k.h.cap,.slice mk.pa k.h.path.length mk.pc,.slice mk.ia k.k.len mk.ic,
 .int .i64 v.h.kind,.string v.h.type,.int .i64 v.h.n,.int .u64 v.h.f,.string v.h.s,.int .i64 v.h.obj,.int .i64 v.h.frm,.int .i64 v.h.len,.int .i64 v.h.cap,.slice mv.pa v.h.path.length mv.pc,.slice mv.ia v.k.len mv.ic,
 .int .u64 h,.pointer nx,.pointer bf,.pointer af,.bool ow]⟩
def En.cs(e:En)(mk mv:Dm)(nx bf af:Option Addr):Array Value:=cs27 e.key e.val mk mv e.hash nx bf af e.own
abbrev entT:TypeId:=165
abbrev mapT:TypeId:=169
theorem range_of{w:World}{g:Nat}{t:TypeId}{cs:Array Value}(h:Blk w g t cs)(o n:Nat){vs:List Value}(e:(cs.toList.drop o).take n=vs):w.rangeAt g o vs:=
 range_blk h fun j v hj=>by
  rw[<-e,List.getElem?_take] at hj
  split at hj
  ·rw[List.getElem?_drop] at hj
   simpa using hj
  ·cases hj
theorem datInf:(Tryz.prog.info? 53).map (·.size)=some 11:=by kernel_rfl
theorem ptrInf:(Tryz.prog.info? 161).map (·.size)=some 1:=by kernel_rfl
theorem dat_load{w:World}{g o:Nat}{t:TypeId}{cs:Array Value}{d:Dt}{m:Dm}(h:Blk w g t cs)(e:(cs.toList.drop o).take 11=(d.cs m).toList):Lds Tryz.prog 53 (.pointer (some ⟨g,o,none⟩)) (.agg (d.cs m)) w:=
 ldsA (cs:=(d.cs m).toList) Tryz.underlying53 rfl datInf (range_of h o 11 e)
theorem ent_key{w:World}{e:En}{mk mv:Dm}{nx bf af:Option Addr}(h:Blk w e.g entT (e.cs mk mv nx bf af)):Lds Tryz.prog 53 (.pointer (some ⟨e.g,0,none⟩)) (.agg (e.key.cs mk)) w:=dat_load h rfl
theorem ent_val{w:World}{e:En}{mk mv:Dm}{nx bf af:Option Addr}(h:Blk w e.g entT (e.cs mk mv nx bf af)):Lds Tryz.prog 53 (.pointer (some ⟨e.g,11,none⟩)) (.agg (e.val.cs mv)) w:=dat_load h rfl
theorem one_load{w:World}{g o:Nat}{t u:TypeId}{d:TypeDesc}{cs:Array Value}{v:Value}(h:Blk w g t cs)(hu:Tryz.prog.underlying u=some d)(hd:d.isRow=false)(e:cs[o]? =some v):Lds Tryz.prog u (.pointer (some ⟨g,o,none⟩)) v w:=
 lds1 hu hd (by rw[h.cell,e])
theorem one_store{w:World}{g o:Nat}{t u:TypeId}{cs:Array Value}{v:Value}(h:Blk w g t cs)(hu:(Tryz.prog.info? u).map (·.size)=some 1)(ho:o<cs.size)(h1:v.oneCell'=true):(Instr.storeAt u (.pointer (some ⟨g,o,none⟩)) v).run Tryz.prog w=.ok () (w.setCells g o [v]):=
 sts1 (there_bk h (by omega)) hu h1
theorem dat_store{w:World}{g o:Nat}{t:TypeId}{cs:Array Value}{d:Dt}{m:Dm}(h:Blk w g t cs)(ho:o+11<=cs.size):(Instr.storeAt 53 (.pointer (some ⟨g,o,none⟩)) (.agg (d.cs m))).run Tryz.prog w=.ok () (w.setCells g o (d.cs m).toList):=
 stsA (there_bk h (by rw[d.cs_size];exact ho)) (by rw[d.cs_size];exact datInf) (by simp[Dt.cs,Hd.cells,Value.oneCell'])
structure Raw (w:World) (m hb n:Nat) (fr tx:Option Addr) (many:Int) (H N B A:Nat->Option Addr) (R:List En) (D:Nat->Prop):Prop where
 map: ∃cs,Blk w m mapT cs/\cs.size=12/\cs[8]? =some (.slice (some ⟨hb,0,none⟩) n n)/\cs[9]? =some (.pointer fr)/\cs[10]? =some (.pointer tx)/\cs[11]? =some (.int .i64 many)
 heads: ∃t hs,Blk w hb t hs/\n<=hs.size/\(∀i,i<n->hs[i]? =some (.pointer (H i)))/\(hb=m->n=8)
 ent: ∀e∈R,∃mk mv,Blk w e.g entT (e.cs mk mv (N e.g) (B e.g) (A e.g))/\e.key.at w D mk/\e.val.at w D mv
 nd:(R.map (·.g)).Nodup
 far: ∀e∈R,e.g≠m/\e.g≠hb
 out: ¬D m/\¬D hb/\∀e∈R,¬D e.g
 ok: ∀e∈R,e.key.ok/\e.val.ok/\0<=e.hash/\e.hash<=18446744073709551615
 dlt: ∀b,D b->b<w.heap.size
def upd(f:Nat->Option Addr)(k:Nat)(p:Option Addr):Nat->Option Addr:=fun i=>if i=k then p else f i
theorem upd_same(f:Nat->Option Addr)(k:Nat)(p:Option Addr):upd f k p k=p:=if_pos rfl
theorem upd_ne{f:Nat->Option Addr}{k i:Nat}{p:Option Addr}(h:i≠k):upd f k p i=f i:=if_neg h
section
variable {w w':World} {m hb n:Nat} {fr tx:Option Addr} {many:Int} {H N B A:Nat->Option Addr} {R:List En} {D:Nat->Prop}
theorem setCells_other{g b:Nat}: ∀(vs:List Value) (o:Nat) (w:World) (_:b≠g),(w.setCells g o vs).heap[b]? =w.heap[b]?
 | [],_,_,_=>rfl
 | v::r,o,w,h=>(setCells_other r (o+1) _ h).trans (Below.heap_setCell w ⟨g,o,none⟩ v b h)
theorem setCells_size'(g:Nat): ∀(vs:List Value) (o:Nat) (w:World),(w.setCells g o vs).heap.size=w.heap.size
 | [],_,_=>rfl
 | v::r,o,w=>(setCells_size' g r (o+1) _).trans (by simp[World.setCell])
theorem Raw.old(h:Raw w m hb n fr tx many H N B A R D)(hb':Below w.heap.size w w'):Raw w' m hb n fr tx many H N B A R D where
 map:=let⟨cs,h1,h2⟩:=h.map;⟨cs,h1.below hb' h1.lt,h2⟩
 heads:=let⟨t,hs,h1,h2⟩:=h.heads;⟨t,hs,h1.below hb' h1.lt,h2⟩
 ent:=fun e he=>let⟨ma,mb,h1,h2,h3⟩:=h.ent e he;⟨ma,mb,h1.below hb' h1.lt,h2.old hb',h3.old hb'⟩
 nd:=h.nd
 far:=h.far
 out:=h.out
 ok:=h.ok
 dlt:=fun b hd=>Nat.lt_of_lt_of_le (h.dlt b hd) hb'.size
theorem Raw.more(h:Raw w m hb n fr tx many H N B A R D){D':Nat->Prop}(hD: ∀b,D b->D' b)(hs: ∀b,D' b->b<w.heap.size)(hm: ¬D' m)(hh: ¬D' hb)(he: ∀e∈R,¬D' e.g):Raw w m hb n fr tx many H N B A R D' where
 map:=h.map
 heads:=h.heads
 ent:=fun e he=>let⟨ma,mb,h1,h2,h3⟩:=h.ent e he;⟨ma,mb,h1,h2.keep (fun _ _ _=>rfl) (fun b hb _=>hD b hb),h3.keep (fun _ _ _=>rfl) (fun b hb _=>hD b hb)⟩
 nd:=h.nd
 far:=h.far
 out:=⟨hm,hh,he⟩
 ok:=h.ok
 dlt:=hs
theorem Raw.mlt(h:Raw w m hb n fr tx many H N B A R D):m<w.heap.size:=by
 obtain⟨_,h1,_⟩:=h.map
 exact h1.lt
theorem Raw.hlt(h:Raw w m hb n fr tx many H N B A R D):hb<w.heap.size:=let⟨_,_,h1,_⟩:=h.heads;h1.lt
theorem Raw.elt(h:Raw w m hb n fr tx many H N B A R D){e:En}(he:e∈R):e.g<w.heap.size:=let⟨_,_,h1,_⟩:=h.ent e he;h1.lt
theorem dat_far{d:Dt}{mm:Dm}{g:Nat}(vs:List Value)(o:Nat)(h:d.at w D mm)(hg: ¬D g):d.at (w.setCells g o vs) D mm:=h.keep (fun b hb _=>setCells_other vs o w (fun e=>hg (e ▸ hb))) (fun _ h _=>h)
theorem nd_eq(hn:(R.map (·.g)).Nodup){e e':En}(h:e∈R)(h':e'∈R)(hg:e.g=e'.g):e=e':=by
 induction R with
 | nil=>cases h
 | cons x R ih=>
  rw[List.map_cons,List.nodup_cons] at hn
  rcases List.mem_cons.1 h with rfl | h1
  ·rcases List.mem_cons.1 h' with rfl | h2
   ·rfl
   ·exact absurd (List.mem_map.2 ⟨e',h2,hg.symm⟩) hn.1
  ·rcases List.mem_cons.1 h' with rfl | h2
   ·exact absurd (List.mem_map.2 ⟨e,h1,hg⟩) hn.1
   ·exact ih hn.2 h1 h2
theorem Raw.setE(h:Raw w m hb n fr tx many H N B A R D){e:En}(he:e∈R)(o:Nat)(v:Value)(N' B' A':Nat->Option Addr)
  (hc: ∀mk mv,(e.cs mk mv (N e.g) (B e.g) (A e.g)).setIfInBounds o v=e.cs mk mv (N' e.g) (B' e.g) (A' e.g)) (hN: ∀x,x≠e.g->N' x=N x/\B' x=B x/\A' x=A x):
  Raw (w.setCells e.g o [v]) m hb n fr tx many H N' B' A' R D where
 map:=let⟨cs,h1,h2⟩:=h.map;⟨cs,h1.far (p:=⟨e.g,o,none⟩) (Ne.symm (h.far e he).1) v,h2⟩
 heads:=let⟨t,hs,h1,h2⟩:=h.heads;⟨t,hs,h1.far (p:=⟨e.g,o,none⟩) (Ne.symm (h.far e he).2) v,h2⟩
 ent:=fun x hx=>by
  obtain⟨mk,mv,h1,h2,h3⟩:=h.ent x hx
  refine⟨mk,mv, ?_,dat_far [v] o h2 (h.out.2.2 e he),dat_far [v] o h3 (h.out.2.2 e he)⟩
  by_cases hxe:x.g=e.g
  ·obtain rfl:=nd_eq h.nd hx he hxe
   have:=h1.set_ o v
   rw[hc mk mv] at this
   exact this
  ·obtain⟨q1,q2,q3⟩:=hN x.g hxe
   rw[q1,q2,q3]
   exact h1.far (p:=⟨e.g,o,none⟩) hxe v
 nd:=h.nd
 far:=h.far
 out:=h.out
 ok:=h.ok
 dlt:=fun b hd=>by rw[setCells_size'];exact h.dlt b hd
theorem Raw.setN(h:Raw w m hb n fr tx many H N B A R D){e:En}(he:e∈R)(p:Option Addr):Raw (w.setCells e.g 23 [.pointer p]) m hb n fr tx many H (upd N e.g p) B A R D:=
 h.setE he 23 _ _ _ _ (fun mk mv=>by rw[upd_same];rfl) (fun x hx=>⟨upd_ne hx,rfl,rfl⟩)
theorem Raw.setA(h:Raw w m hb n fr tx many H N B A R D){e:En}(he:e∈R)(p:Option Addr):Raw (w.setCells e.g 25 [.pointer p]) m hb n fr tx many H N B (upd A e.g p) R D:=
 h.setE he 25 _ _ _ _ (fun mk mv=>by rw[upd_same];rfl) (fun x hx=>⟨rfl,rfl,upd_ne hx⟩)
theorem Raw.setM(h:Raw w m hb n fr tx many H N B A R D)(o:Nat)(v:Value)(ho:9<=o){fr' tx':Option Addr}{many':Int}
  (hc: ∀cs:Array Value,cs.size=12->cs[9]? =some (.pointer fr)->cs[10]? =some (.pointer tx)->cs[11]? =some (.int .i64 many)->(cs.setIfInBounds o v)[9]? =some (.pointer fr')/\(cs.setIfInBounds o v)[10]? =some (.pointer tx')/\(cs.setIfInBounds o v)[11]? =some (.int .i64 many')):
  Raw (w.setCells m o [v]) m hb n fr' tx' many' H N B A R D where
 map:=by
  obtain⟨cs,h1,h2,h3,h4,h5,h6⟩:=h.map
  obtain⟨q1,q2,q3⟩:=hc cs h2 h4 h5 h6
  exact⟨_,h1.set_ o v,by simpa using h2,by rw[Array.getElem?_setIfInBounds_ne (by omega),h3],q1,q2,q3⟩
 heads:=by
  obtain⟨t,hs,h1,h2,h3,h4⟩:=h.heads
  by_cases e:hb=m
  ·have hn:=h4 e
   subst e
   exact⟨t,_,h1.set_ o v,by simpa using h2,fun i hi=>by rw[Array.getElem?_setIfInBounds_ne (by omega),h3 i hi],h4⟩
  ·exact⟨t,hs,h1.far (p:=⟨m,o,none⟩) e v,h2,h3,h4⟩
 ent:=fun x hx=>by
  obtain⟨mk,mv,h1,h2,h3⟩:=h.ent x hx
  exact⟨mk,mv,h1.far (p:=⟨m,o,none⟩) (h.far x hx).1 v,dat_far [v] o h2 h.out.1,dat_far [v] o h3 h.out.1⟩
 nd:=h.nd
 far:=h.far
 out:=h.out
 ok:=h.ok
 dlt:=fun b hd=>by rw[setCells_size'];exact h.dlt b hd
theorem Raw.setFrom(h:Raw w m hb n fr tx many H N B A R D)(p:Option Addr):Raw (w.setCells m 9 [.pointer p]) m hb n p tx many H N B A R D:=
 h.setM 9 _ (by omega) fun cs h0 h1 h2 h3=>⟨by simp[h0],by rw[Array.getElem?_setIfInBounds_ne (by omega),h2],by rw[Array.getElem?_setIfInBounds_ne (by omega),h3]⟩
theorem Raw.setTo(h:Raw w m hb n fr tx many H N B A R D)(p:Option Addr):Raw (w.setCells m 10 [.pointer p]) m hb n fr p many H N B A R D:=
 h.setM 10 _ (by omega) fun cs h0 h1 h2 h3=>⟨by rw[Array.getElem?_setIfInBounds_ne (by omega),h1],by simp[h0],by rw[Array.getElem?_setIfInBounds_ne (by omega),h3]⟩
theorem Raw.setMany(h:Raw w m hb n fr tx many H N B A R D)(k:Int):Raw (w.setCells m 11 [.int .i64 k]) m hb n fr tx k H N B A R D:=
 h.setM 11 _ (by omega) fun cs h0 h1 h2 h3=>⟨by rw[Array.getElem?_setIfInBounds_ne (by omega),h1],by rw[Array.getElem?_setIfInBounds_ne (by omega),h2],by simp[h0]⟩
theorem Raw.setH(h:Raw w m hb n fr tx many H N B A R D)(i:Nat)(hi:i<n)(p:Option Addr):Raw (w.setCells hb i [.pointer p]) m hb n fr tx many (upd H i p) N B A R D where
 map:=by
  obtain⟨cs,h1,h2,h3,h4,h5,h6⟩:=h.map
  by_cases e:hb=m
  ·obtain⟨_,_,_,_,_,h7⟩:=h.heads
   have:=h7 e
   subst e
   exact⟨_,h1.set_ i _,by simpa using h2,by rw[Array.getElem?_setIfInBounds_ne (by omega),h3],by rw[Array.getElem?_setIfInBounds_ne (by omega),h4],by rw[Array.getElem?_setIfInBounds_ne (by omega),h5],by rw[Array.getElem?_setIfInBounds_ne (by omega),h6]⟩
  ·exact⟨cs,h1.far (p:=⟨hb,i,none⟩) (Ne.symm e) _,h2,h3,h4,h5,h6⟩
 heads:=by
  obtain⟨t,hs,h1,h2,h3,h4⟩:=h.heads
  refine⟨t,_,h1.set_ i _,by simpa using h2,fun j hj=> ?_,h4⟩
  by_cases e:j=i
  ·subst e
   rw[upd_same,Array.getElem?_setIfInBounds_self_of_lt (by omega)]
  ·rw[upd_ne e,Array.getElem?_setIfInBounds_ne (by omega),h3 j hj]
 ent:=fun x hx=>by
  obtain⟨mk,mv,h1,h2,h3⟩:=h.ent x hx
  exact⟨mk,mv,h1.far (p:=⟨hb,i,none⟩) (h.far x hx).2 _,dat_far _ i h2 h.out.2.1,dat_far _ i h3 h.out.2.1⟩
 nd:=h.nd
 far:=h.far
 out:=h.out
 ok:=h.ok
 dlt:=fun b hd=>by rw[setCells_size'];exact h.dlt b hd
theorem Raw.less(h:Raw w m hb n fr tx many H N B A R D){R':List En}(hs:R'.Sublist R):Raw w m hb n fr tx many H N B A R' D where
 map:=h.map
 heads:=h.heads
 ent:=fun e he=>h.ent e (hs.subset he)
 nd:=h.nd.sublist (hs.map _)
 far:=fun e he=>h.far e (hs.subset he)
 out:=⟨h.out.1,h.out.2.1,fun e he=>h.out.2.2 e (hs.subset he)⟩
 ok:=fun e he=>h.ok e (hs.subset he)
 dlt:=h.dlt
theorem Raw.push(h:Raw w m hb n fr tx many H N B A R D)(e:En){mk mv:Dm}(hB:Blk w e.g entT (e.cs mk mv (N e.g) (B e.g) (A e.g)))(h1:e.key.at w D mk)(h2:e.val.at w D mv)(hn: ∀x∈R,x.g≠e.g)(hm:e.g≠m)(hh:e.g≠hb)(hD: ¬D e.g)
  (ho:e.key.ok/\e.val.ok/\0<=e.hash/\e.hash<=18446744073709551615):Raw w m hb n fr tx many H N B A (e::R) D where
 map:=h.map
 heads:=h.heads
 ent:=fun x hx=>by
  rcases List.mem_cons.1 hx with rfl | hx
  ·exact⟨mk,mv,hB,h1,h2⟩
  ·exact h.ent x hx
 nd:=by
  rw[List.map_cons,List.nodup_cons]
  exact⟨fun hm=>by obtain⟨x,hx,e1⟩:=List.mem_map.1 hm;exact hn x hx e1,h.nd⟩
 far:=fun x hx=>by
  rcases List.mem_cons.1 hx with rfl | hx
  ·exact⟨hm,hh⟩
  ·exact h.far x hx
 out:=⟨h.out.1,h.out.2.1,fun x hx=>by
  rcases List.mem_cons.1 hx with rfl | hx
  ·exact hD
  ·exact h.out.2.2 x hx⟩
 ok:=fun x hx=>by
  rcases List.mem_cons.1 hx with rfl | hx
  ·exact ho
  ·exact h.ok x hx
 dlt:=h.dlt
theorem Raw.by(h:Raw w m hb n fr tx many H N B A R D){fr' tx':Option Addr}{many':Int}{H' N' B' A':Nat->Option Addr}(h1:fr=fr')(h2:tx=tx')(h3:many=many')(h4: ∀i,i<n->H i=H' i)(h5: ∀e∈R,N e.g=N' e.g/\B e.g=B' e.g/\A e.g=A' e.g):
    Raw w m hb n fr' tx' many' H' N' B' A' R D:=by
  subst h1 h2 h3
  exact { map := h.map, heads := let ⟨t, hs, q1, q2, q3, q4⟩ := h.heads; ⟨t, hs, q1, q2, fun i hi => by rw [← h4 i hi]; exact q3 i hi, q4⟩,
          ent:=fun e he=>by
            obtain⟨q1,q2,q3⟩:=h5 e he
            rw[<-q1,<-q2,<-q3]
            exact h.ent e he,
          nd:=h.nd,far:=h.far,out:=h.out,ok:=h.ok,dlt:=h.dlt}
end
end Go.Proofs.YtbjegfpfmnleeaaGreatDoor

namespace Go.Proofs.YtbjegfpfmnleeaaGreatDoor
def nanB(f:Nat):Bool:=decide (f / 4503599627370496 % 2048=2047/\f % 4503599627370496≠0)
def placeF(f:Nat):Int:=if f / 9223372036854775808 % 2=1 then-((f % 9223372036854775808:Nat):Int) else((f % 9223372036854775808:Nat):Int)
def valF(r:Nat):Nat:=if r<4503599627370496 then r else(4503599627370496+r % 4503599627370496)*2 ^ (r / 4503599627370496-1)
theorem valF_lt{r s:Nat}(h:r<s):valF r<valF s:=by
 unfold valF
 by_cases h1:r<4503599627370496
 ·rw[if_pos h1]
  by_cases h2:s<4503599627370496
  ·rw[if_pos h2];exact h
  ·rw[if_neg h2]
   have h3:1<=2 ^ (s / 4503599627370496-1):=Nat.one_le_two_pow
   have h4:=Nat.mul_le_mul_left (4503599627370496+s % 4503599627370496) h3
   omega
 ·have h2: ¬s<4503599627370496:=by omega
  rw[if_neg h1,if_neg h2]
  have q1:1<=r / 4503599627370496:=by omega
  rcases Nat.lt_or_ge (r / 4503599627370496) (s / 4503599627370496) with hq | hq
  ·have h5:2 ^ (r / 4503599627370496)<=2 ^ (s / 4503599627370496-1):=Nat.pow_le_pow_right (by decide) (by omega)
   have h6:2 ^ (r / 4503599627370496)=2*2 ^ (r / 4503599627370496-1):=by
    rw[<-Nat.pow_succ',Nat.succ_eq_add_one,Nat.sub_add_cancel q1]
   have h7:=Nat.mul_le_mul_left (4503599627370496+s % 4503599627370496) h5
   have h8:0<2 ^ (r / 4503599627370496-1):=Nat.two_pow_pos _
   have h9:(4503599627370496+r % 4503599627370496)*2 ^ (r / 4503599627370496-1)<9007199254740992*2 ^ (r / 4503599627370496-1):=Nat.mul_lt_mul_of_pos_right (by omega) h8
   have h10:4503599627370496*2 ^ (r / 4503599627370496)<=(4503599627370496+s % 4503599627370496)*2 ^ (r / 4503599627370496):=Nat.mul_le_mul_right _ (by omega)
   rw[h6] at h10 h7
   have h11:4503599627370496*(2*2 ^ (r / 4503599627370496-1))=9007199254740992*2 ^ (r / 4503599627370496-1):=by rw[<-Nat.mul_assoc]
   rw[h11] at h10
   exact Nat.lt_of_lt_of_le h9 (Nat.le_trans h10 h7)
  ·have hqe:r / 4503599627370496=s / 4503599627370496:=by
    have:r / 4503599627370496<=s / 4503599627370496:=Nat.div_le_div_right (by omega)
    omega
   rw[hqe]
   exact Nat.mul_lt_mul_of_pos_right (by omega) (Nat.two_pow_pos _)
def sg(s:Bool)(v:Nat):Int:=if s then-(v:Int) else v
theorem cmp_int{a b c d:Int}(h1:a<b↔c<d)(h2:b<a↔d<c):compare a b=compare c d:=by
 simp only[compare,compareOfLessAndEq]
 by_cases h:a<b
 ·rw[if_pos h,if_pos (h1.1 h)]
 ·rw[if_neg h,if_neg (fun e=>h (h1.2 e))]
  by_cases e:a=b
  ·have:c=d:=by
    have n1: ¬c<d:=fun e'=>h (h1.2 e')
    have n2: ¬d<c:=fun e'=>by have:=h2.2 e';omega
    omega
   rw[if_pos e,if_pos this]
  ·have: ¬c=d:=by
    have:=h2.1 (by omega)
    omega
   rw[if_neg e,if_neg this]
theorem sg_lt(s t:Bool)(f:Nat->Nat)(hf: ∀{r s},r<s->f r<f s)(h0:f 0=0)(a b:Nat):(sg s (f a)<sg t (f b)↔sg s a<sg t b):=by
 have m: ∀x y,f x<f y↔x<y:=fun x y=>⟨fun h=>by
  rcases Nat.lt_trichotomy x y with h1 | h1 | h1
  ·exact h1
  ·subst h1;omega
  ·have:=hf h1;omega,hf⟩
 have p: ∀x,0<f x↔0<x:=fun x=>by rw[<-h0];simpa[h0] using m 0 x
 have a1:=p a;have b1:=p b;have m1:=m a b;have m2:=m b a
 cases s<;>cases t<;>simp only[sg,if_true,if_false,Bool.false_eq_true]<;>omega
def magF(r:Nat):Nat:=if r<4503599627370496 then r else 4503599627370496+r % 4503599627370496
theorem valF_eq(r:Nat):valF r=magF r*2 ^ (r / 4503599627370496-1):=by
 unfold valF magF
 by_cases h:r<4503599627370496
 ·rw[if_pos h,if_pos h,show r / 4503599627370496-1=0 by omega];omega
 ·rw[if_neg h,if_neg h]
theorem bin:({exponentBits:=11,fractionBits:=52}:Ieee.Format).binade=4503599627370496:=by decide
theorem readF(a:Nat):FloatKind.f64.format.read a=
  if a % 9223372036854775808<9218868437227405312 then .number (a / 9223372036854775808 % 2==1) (magF (a % 9223372036854775808)) (-1074+((a % 9223372036854775808 / 4503599627370496-1:Nat):Int))
  else if a % 9223372036854775808=9218868437227405312 then .infinity (a / 9223372036854775808 % 2==1)
  else .nan (a / 9223372036854775808 % 2==1) (a % 9223372036854775808-9218868437227405312):=by
 unfold FloatKind.format Ieee.double Ieee.Format.read Ieee.Format.signWeight Ieee.Format.infRung Ieee.Format.leastPlace
 simp only[bin]
 have e1:(2:Nat) ^ (11+52)=9223372036854775808:=by decide
 have e2:((2:Nat) ^ 11-1)*4503599627370496=9218868437227405312:=by decide
 have e3:(2-2 ^ (11-1)-((52:Nat):Int):Int)= -1074:=by decide
 simp only[e1,e2,e3]
 unfold magF
 generalize a % 9223372036854775808=r
 by_cases h1:r<4503599627370496
 ·rw[if_pos h1,if_pos (by omega),if_pos h1,show r / 4503599627370496-1=0 by omega];simp
 ·rw[if_neg h1]
  by_cases h2:r<9218868437227405312
  ·rw[if_pos h2,if_pos h2,if_neg h1]
  ·rw[if_neg h2,if_neg h2]
theorem placeF_sg(a:Nat):placeF a=sg (a / 9223372036854775808 % 2==1) (a % 9223372036854775808):=by
 unfold placeF sg
 by_cases h:a / 9223372036854775808 % 2=1<;>simp[h]
theorem nanB_eq(a:Nat):nanB a=decide (9218868437227405312<a % 9223372036854775808):=by
 unfold nanB
 rw[decide_eq_decide]
 omega
theorem signed_mul(s:Bool)(m c d:Nat):Ieee.signed s m (c+d)=Ieee.signed s m c*((2 ^ d:Nat):Int):=by
 unfold Ieee.signed
 rw[Nat.shiftLeft_eq,Nat.shiftLeft_eq,Nat.pow_add,<-Nat.mul_assoc]
 cases s
 ·simp only[Bool.false_eq_true,if_false];exact Int.natCast_mul _ _
 ·simp only[if_true];rw[Int.natCast_mul,Int.neg_mul]
theorem signed_val(s:Bool)(r:Nat):Ieee.signed s (magF r) (r / 4503599627370496-1)=sg s (valF r):=by
 unfold Ieee.signed sg
 rw[Nat.shiftLeft_eq,valF_eq]
theorem mul_lt_iff(a b:Int)(p:Nat)(hp:0<p):a<b↔a*(p:Int)<b*(p:Int):=
 ⟨fun h=>Int.mul_lt_mul_of_pos_right h (by omega),fun h=>Int.lt_of_mul_lt_mul_right h (by omega)⟩
theorem cmp_lt{a b:Int}(h:a<b):compare a b=.lt:=by simp[compare,compareOfLessAndEq,h]
theorem cmp_gt{a b:Int}(h:b<a):compare a b=.gt:=by simp only[compare,compareOfLessAndEq];rw[if_neg (by omega),if_neg (by omega)]
theorem cmp_self(a:Int):compare a a=.eq:=by simp[compare,compareOfLessAndEq]
theorem order_eq(a b:Nat):FloatKind.f64.format.order a b=if(nanB a||nanB b)=true then none else some (compare (placeF a) (placeF b)):=by
  unfold Ieee.Format.order
  rw[readF,readF,placeF_sg,placeF_sg,nanB_eq,nanB_eq]
  generalize (a / 9223372036854775808 % 2==1)=s
  generalize (b / 9223372036854775808 % 2==1)=t
  generalize a % 9223372036854775808=r
  generalize b % 9223372036854775808=q
  rcases Nat.lt_trichotomy r 9218868437227405312 with h1 | h1 | h1<;>rcases Nat.lt_trichotomy q 9218868437227405312 with h2 | h2 | h2
  · rw[if_pos h1,if_pos h2,decide_eq_false (by omega),decide_eq_false (by omega),if_neg (by simp)]
    simp only[Ieee.Datum.order]
    have ka:=signed_val s r
    have kb:=signed_val t q
    generalize r / 4503599627370496-1=x at*
    generalize q / 4503599627370496-1=y at*
    have e1:((-1074+(x:Int))-min (-1074+(x:Int)) (-1074+(y:Int))).toNat=x-min x y:=by omega
    have e2:((-1074+(y:Int))-min (-1074+(x:Int)) (-1074+(y:Int))).toNat=y-min x y:=by omega
    rw[e1,e2]
    have m1:=signed_mul s (magF r) (x-min x y) (min x y)
    have m2:=signed_mul t (magF q) (y-min x y) (min x y)
    rw[show x-min x y+min x y=x by omega,ka] at m1
    rw[show y-min x y+min x y=y by omega,kb] at m2
    have hp:0<2 ^ min x y:=Nat.two_pow_pos _
    refine congrArg some (cmp_int ?_ ?_)
    · rw[mul_lt_iff _ _ _ hp,<-m1,<-m2]
      exact sg_lt s t valF (fun h=>valF_lt h) (by decide) r q
    · rw[mul_lt_iff _ _ _ hp,<-m1,<-m2]
      exact sg_lt t s valF (fun h=>valF_lt h) (by decide) q r
  all_goals
    first
      | (rw[decide_eq_true h1];simp[Ieee.Datum.order,show ¬r<9218868437227405312 by omega,show ¬r=9218868437227405312 by omega];done)
      | (rw[decide_eq_true h2];simp[Ieee.Datum.order,h1,show ¬q<9218868437227405312 by omega,show ¬q=9218868437227405312 by omega];done)
      | (rw [decide_eq_false (show ¬ 9218868437227405312 < r by omega), decide_eq_false (show ¬ 9218868437227405312 < q by omega), if_neg (show ¬ (false || false) = true by simp)]
         first
           | (rw [if_pos h1, if_neg (show ¬ q < 9218868437227405312 by omega), if_pos h2]
              cases t
              · rw[cmp_lt (b:=sg false q) (by cases s<;>simp only[sg,if_true,if_false,Bool.false_eq_true]<;>omega)];rfl
              · rw[cmp_gt (b:=sg true q) (by cases s<;>simp only[sg,if_true,if_false,Bool.false_eq_true]<;>omega)];rfl)
           | (rw [if_pos h2, if_neg (show ¬ r < 9218868437227405312 by omega), if_pos h1]
              cases s
              · rw[cmp_gt (a:=sg false r) (by cases t<;>simp only[sg,if_true,if_false,Bool.false_eq_true]<;>omega)];rfl
              · rw[cmp_lt (a:=sg true r) (by cases t<;>simp only[sg,if_true,if_false,Bool.false_eq_true]<;>omega)];rfl)
           | (rw [if_neg (show ¬ q < 9218868437227405312 by omega), if_pos h2, if_neg (show ¬ r < 9218868437227405312 by omega), if_pos h1]
              have hrq:r=q:=by omega
              subst hrq
              clear h2
              have hr:0<r:=by omega
              clear h1
              cases s<;>cases t
              · rw[cmp_self];rfl
              · rw[cmp_gt (a:=sg false r) (by simp only[sg,if_true,if_false,Bool.false_eq_true];omega)];rfl
              · rw[cmp_lt (a:=sg true r) (by simp only[sg,if_true,if_false,Bool.false_eq_true];omega)];rfl
              · rw[cmp_self];rfl))
theorem cmp_eq_iff(a b:Int):(compare a b==.eq)=decide (a=b):=by
 simp only[compare,compareOfLessAndEq]
 by_cases h:a<b
 ·rw[if_pos h,decide_eq_false (by omega)];rfl
 ·rw[if_neg h]
  by_cases e:a=b
  ·rw[if_pos e,decide_eq_true e];rfl
  ·rw[if_neg e,decide_eq_false e];rfl
theorem some_beq(x y:Ordering):((some x:Option Ordering)==some y)=(x==y):=rfl
def feqB(a b:Nat):Bool:= !nanB a&& !nanB b&&decide (placeF a=placeF b)
theorem feq(a b:Nat):(FloatKind.f64.format.order a b==some .eq)=feqB a b:=by
 rw[order_eq,feqB]
 cases nanB a<;>cases nanB b<;>simp only[Bool.or_self,Bool.or_true,Bool.or_false,if_true,if_false,Bool.false_eq_true,Bool.not_true,Bool.not_false,Bool.false_and,Bool.and_false,Bool.true_and,some_beq,cmp_eq_iff]<;>rfl
theorem fne(a b:Nat):(FloatKind.f64.format.order a b != some .eq)= !feqB a b:=by rw[<-feq];rfl
theorem feq_self(a:Nat):feqB a a= !nanB a:=by simp[feqB]
end Go.Proofs.YtbjegfpfmnleeaaGreatDoor

namespace Go.Proofs.YtbjegfpfmnleeaaGreatDoor
theorem fromBits(n:Int)(w:World):(callFunc 114 #[.int .u64 n]).run Tryz.prog w=.ok (.value (.float .f64 n.toNat)) w:=by kernel_rfl
set_option maxHeartbeats 400000 in
theorem isNaN_any(f:Nat)(w:World):Calls Tryz.prog 113 #[.float .f64 f] w fun e w'=>e=.returned (.bool (nanB f))/\w=w':=by
 have hf:=fne f f
 rw[feq_self,Bool.not_not] at hf
 go_enter Tryz.func113,Tryz.ntmps113
 go_wp2
 go_ret
 exact⟨rfl,rfl⟩
end Go.Proofs.YtbjegfpfmnleeaaGreatDoor
