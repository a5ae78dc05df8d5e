/-
   Written by an AI agent.
-/
import Derived.Test.YtbjegfpfmnleeaaGreatDoorPk04
import Derived.Laws.Cover2
import Derived.BigQuiet
import Derived.Deep.QuietTactic
namespace Go.Proofs.YtbjegfpfmnleeaaGreatDoor
open Go.RowKit
set_option maxRecDepth 100000
structure En where
 g:Nat
 key:Dt
 val:Dt
 hash:Int
 own:Bool
def En.p(e:En):Addr:=⟨e.g,0,none⟩
def pO(o:Option En):Option Addr:=o.map En.p
def Ew2(k v:Dt)(mk mv:Dm)(h:Int)(nx bf af:Option Addr)(ow:Bool):Array Value:=⟨[.int .i64 k.h.kind,.string k.h.type,.int .i64 k.h.n,.int .u64 k.h.f,.string k.h.s,.int .i64 k.h.obj,.int .i64 k.h.frm,.int .i64 k.h.len,.int .i64 k.h.cap,.slice mk.pa k.h.path.length mk.pc,.slice mk.ia k.k.len mk.ic,
 .int .i64 v.h.kind,.string v.h.type,.int .i64 v.h.n,.int .u64 v.h.f,.string v.h.s,.int .i64 v.h.obj,.int .i64 v.h.frm,.int .i64 v.h.len,.int .i64 v.h.cap,.slice mv.pa v.h.path.length mv.pc,.slice mv.ia v.k.len mv.ic,
 .int .u64 h,.pointer nx,.pointer bf,.pointer af,.bool ow]⟩
def En.cs(e:En)(mk mv:Dm)(nx bf af:Option Addr):Array Value:=Ew2 e.key e.val mk mv e.hash nx bf af e.own
abbrev Ny:TypeId:=165
abbrev Dn4:TypeId:=169
theorem Q0{w:World}{g:Nat}{t:TypeId}{cs:Array Value}(h:Blk w g t cs)(o n:Nat){vs:List Value}(e:(cs.toList.drop o).take n=vs):w.rangeAt g o vs:=
 Vw h fun j v hj=>by
  rw[<-e,List.getElem?_take] at hj
  split at hj
  ·rw[List.getElem?_drop] at hj
   simpa using hj
  ·cases hj
theorem K4:(Tryz.prog.info? 53).map (·.size)=some 11:=by kernel_rfl
theorem Ft:(Tryz.prog.info? 161).map (·.size)=some 1:=by kernel_rfl
theorem C6{w:World}{g o:Nat}{t:TypeId}{cs:Array Value}{d:Dt}{m:Dm}(h:Blk w g t cs)(e:(cs.toList.drop o).take 11=(d.cs m).toList):Lds Tryz.prog 53 (.pointer (some ⟨g,o,none⟩)) (.agg (d.cs m)) w:=
 Bo7 (cs:=(d.cs m).toList) Tryz.underlying53 rfl K4 (Q0 h o 11 e)
theorem Vq{w:World}{e:En}{mk mv:Dm}{nx bf af:Option Addr}(h:Blk w e.g Ny (e.cs mk mv nx bf af)):Lds Tryz.prog 53 (.pointer (some ⟨e.g,0,none⟩)) (.agg (e.key.cs mk)) w:=C6 h rfl
theorem Bo4{w:World}{e:En}{mk mv:Dm}{nx bf af:Option Addr}(h:Blk w e.g Ny (e.cs mk mv nx bf af)):Lds Tryz.prog 53 (.pointer (some ⟨e.g,11,none⟩)) (.agg (e.val.cs mv)) w:=C6 h rfl
theorem A9{w:World}{g o:Nat}{t u:TypeId}{d:TypeDesc}{cs:Array Value}{v:Value}(h:Blk w g t cs)(hu:Tryz.prog.underlying u=some d)(hd:d.isRow=false)(e:cs[o]? =some v):Lds Tryz.prog u (.pointer (some ⟨g,o,none⟩)) v w:=
 H9 hu hd (by rw[h.cell,e])
theorem F2{w:World}{g o:Nat}{t u:TypeId}{cs:Array Value}{v:Value}(h:Blk w g t cs)(hu:(Tryz.prog.info? u).map (·.size)=some 1)(ho:o<cs.size)(h1:v.oneCell'=true):(Instr.storeAt u (.pointer (some ⟨g,o,none⟩)) v).run Tryz.prog w=.ok () (w.setCells g o [v]):=
 Cd3 (O5 h Zo) hu h1
theorem D1{w:World}{g o:Nat}{t:TypeId}{cs:Array Value}{d:Dt}{m:Dm}(h:Blk w g t cs)(ho:o+11<=cs.size):(Instr.storeAt 53 (.pointer (some ⟨g,o,none⟩)) (.agg (d.cs m))).run Tryz.prog w=.ok () (w.setCells g o (d.cs m).toList):=
 Et6 (O5 h (by rw[d.cs_size];exact ho)) (by rw[d.cs_size];exact K4) (by simp[Dt.cs,Hd.cells,Value.oneCell'])
structure Raw (w:World) (m hb n:Nat) (fr tx:Option Addr) (many:Int) (H N B A:Nat->Option Addr) (R:List En) (D:Nat->Prop):Prop where
 map: ∃cs,Blk w m Dn4 cs/\cs.size=12/\cs[8]? =some (.slice (some ⟨hb,0,none⟩) n n)/\cs[9]? =some (.pointer fr)/\cs[10]? =some (.pointer tx)/\cs[11]? =some (.int .i64 many)
 heads: ∃t hs,Blk w hb t hs/\n<=hs.size/\(∀i,i<n->hs[i]? =some (.pointer (H i)))/\(hb=m->n=8)
 ent: ∀e∈R,∃mk mv,Blk w e.g Ny (e.cs mk mv (N e.g) (B e.g) (A e.g))/\e.key.at w D mk/\e.val.at w D mv
 nd:(R.map (·.g)).Nodup
 far: ∀e∈R,e.g≠m/\e.g≠hb
 out: ¬D m/\¬D hb/\∀e∈R,¬D e.g
 ok: ∀e∈R,e.key.ok/\e.val.ok/\0<=e.hash/\e.hash<=18446744073709551615
 dlt: ∀b,D b->b<w.heap.size
def upd(f:Nat->Option Addr)(k:Nat)(p:Option Addr):Nat->Option Addr:=fun i=>if i=k then p else f i
theorem H6(f:Nat->Option Addr)(k:Nat)(p:Option Addr):upd f k p k=p:=if_pos rfl
theorem J8{f:Nat->Option Addr}{k i:Nat}{p:Option Addr}(h:i≠k):upd f k p i=f i:=if_neg h
section
variable {w w':World} {m hb n:Nat} {fr tx:Option Addr} {many:Int} {H N B A:Nat->Option Addr} {R:List En} {D:Nat->Prop}
theorem B5{g b:Nat}: ∀(vs:List Value) (o:Nat) (w:World) (_:b≠g),(w.setCells g o vs).heap[b]? =w.heap[b]?
 | [],_,_,_=>rfl
 | v::r,o,w,h=>(B5 r (o+1) _ h).trans (Below.heap_setCell w ⟨g,o,none⟩ v b h)
theorem B7(g:Nat): ∀(vs:List Value) (o:Nat) (w:World),(w.setCells g o vs).heap.size=w.heap.size
 | [],_,_=>rfl
 | v::r,o,w=>(B7 g r (o+1) _).trans (by simp[World.setCell])
theorem Raw.old(h:Raw w m hb n fr tx many H N B A R D)(hb':Below w.heap.size w w'):Raw w' m hb n fr tx many H N B A R D where
 map:=let⟨cs,h1,h2⟩:=h.map;⟨cs,h1.below hb' h1.lt,h2⟩
 heads:=let⟨t,hs,h1,h2⟩:=h.heads;⟨t,hs,h1.below hb' h1.lt,h2⟩
 ent:=fun e he=>let⟨ma,mb,h1,h2,h3⟩:=h.ent e he;⟨ma,mb,h1.below hb' h1.lt,h2.old hb',h3.old hb'⟩
 nd:=h.nd
 far:=h.far
 out:=h.out
 ok:=h.ok
 dlt:=fun b hd=>Nat.lt_of_lt_of_le (h.dlt b hd) hb'.size
theorem Raw.more(h:Raw w m hb n fr tx many H N B A R D){D':Nat->Prop}(hD: ∀b,D b->D' b)(hs: ∀b,D' b->b<w.heap.size)(hm: ¬D' m)(hh: ¬D' hb)(he: ∀e∈R,¬D' e.g):Raw w m hb n fr tx many H N B A R D' where
 map:=h.map
 heads:=h.heads
 ent:=fun e he=>let⟨ma,mb,h1,h2,h3⟩:=h.ent e he;⟨ma,mb,h1,h2.keep (fun _ _ _=>rfl) (fun b hb _=>hD b hb),h3.keep (fun _ _ _=>rfl) (fun b hb _=>hD b hb)⟩
 nd:=h.nd
 far:=h.far
 out:=⟨hm,hh,he⟩
 ok:=h.ok
 dlt:=hs
theorem Raw.mlt(h:Raw w m hb n fr tx many H N B A R D):m<w.heap.size:=by
 obtain⟨_,h1,_⟩:=h.map
 exact h1.lt
theorem Raw.hlt(h:Raw w m hb n fr tx many H N B A R D):hb<w.heap.size:=let⟨_,_,h1,_⟩:=h.heads;h1.lt
theorem Raw.elt(h:Raw w m hb n fr tx many H N B A R D){e:En}(he:e∈R):e.g<w.heap.size:=let⟨_,_,h1,_⟩:=h.ent e he;h1.lt
theorem K7{d:Dt}{mm:Dm}{g:Nat}(vs:List Value)(o:Nat)(h:d.at w D mm)(hg: ¬D g):d.at (w.setCells g o vs) D mm:=h.keep (fun b hb _=>B5 vs o w (fun e=>hg (e ▸ hb))) (fun _ h _=>h)
theorem Bo5(hn:(R.map (·.g)).Nodup){e e':En}(h:e∈R)(h':e'∈R)(hg:e.g=e'.g):e=e':=by
 induction R with
 | nil=>cases h
 | cons x R ih=>
  rw[List.map_cons,List.nodup_cons] at hn
  rcases List.mem_cons.1 h with rfl | h1
  ·rcases List.mem_cons.1 h' with rfl | h2
   ·rfl
   ·exact absurd (List.mem_map.2 ⟨e',h2,hg.symm⟩) hn.1
  ·rcases List.mem_cons.1 h' with rfl | h2
   ·exact absurd (List.mem_map.2 ⟨e,h1,hg⟩) hn.1
   ·exact ih hn.2 h1 h2
theorem Raw.setE(h:Raw w m hb n fr tx many H N B A R D){e:En}(he:e∈R)(o:Nat)(v:Value)(N' B' A':Nat->Option Addr)
  (hc: ∀mk mv,(e.cs mk mv (N e.g) (B e.g) (A e.g)).setIfInBounds o v=e.cs mk mv (N' e.g) (B' e.g) (A' e.g)) (hN: ∀x,x≠e.g->N' x=N x/\B' x=B x/\A' x=A x):
  Raw (w.setCells e.g o [v]) m hb n fr tx many H N' B' A' R D where
 map:=let⟨cs,h1,h2⟩:=h.map;⟨cs,h1.far (p:=⟨e.g,o,none⟩) (Ne.symm (h.far e he).1) v,h2⟩
 heads:=let⟨t,hs,h1,h2⟩:=h.heads;⟨t,hs,h1.far (p:=⟨e.g,o,none⟩) (Ne.symm (h.far e he).2) v,h2⟩
 ent:=fun x hx=>by
  obtain⟨mk,mv,h1,h2,h3⟩:=h.ent x hx
  refine⟨mk,mv, ?_,K7 [v] o h2 (h.out.2.2 e he),K7 [v] o h3 (h.out.2.2 e he)⟩
  by_cases hxe:x.g=e.g
  ·obtain rfl:=Bo5 h.nd hx he hxe
   have:=h1.set_ o v
   rw[hc mk mv] at this
   exact this
  ·obtain⟨q1,q2,q3⟩:=hN x.g hxe
   rw[q1,q2,q3]
   exact h1.far (p:=⟨e.g,o,none⟩) hxe v
 nd:=h.nd
 far:=h.far
 out:=h.out
 ok:=h.ok
 dlt:=fun b hd=>by rw[B7];exact h.dlt b hd
theorem Raw.setN(h:Raw w m hb n fr tx many H N B A R D){e:En}(he:e∈R)(p:Option Addr):Raw (w.setCells e.g 23 [.pointer p]) m hb n fr tx many H (upd N e.g p) B A R D:=
 h.setE he 23 _ _ _ _ (fun mk mv=>by rw[H6];rfl) (fun x hx=>⟨J8 hx,rfl,rfl⟩)
theorem Raw.setA(h:Raw w m hb n fr tx many H N B A R D){e:En}(he:e∈R)(p:Option Addr):Raw (w.setCells e.g 25 [.pointer p]) m hb n fr tx many H N B (upd A e.g p) R D:=
 h.setE he 25 _ _ _ _ (fun mk mv=>by rw[H6];rfl) (fun x hx=>⟨rfl,rfl,J8 hx⟩)
theorem Raw.setM(h:Raw w m hb n fr tx many H N B A R D)(o:Nat)(v:Value)(ho:9<=o){fr' tx':Option Addr}{many':Int}
  (hc: ∀cs:Array Value,cs.size=12->cs[9]? =some (.pointer fr)->cs[10]? =some (.pointer tx)->cs[11]? =some (.int .i64 many)->(cs.setIfInBounds o v)[9]? =some (.pointer fr')/\(cs.setIfInBounds o v)[10]? =some (.pointer tx')/\(cs.setIfInBounds o v)[11]? =some (.int .i64 many')):
  Raw (w.setCells m o [v]) m hb n fr' tx' many' H N B A R D where
 map:=by
  obtain⟨cs,h1,h2,h3,h4,h5,h6⟩:=h.map
  obtain⟨q1,q2,q3⟩:=hc cs h2 h4 h5 h6
  exact⟨_,h1.set_ o v,by simpa using h2,by rw[Array.getElem?_setIfInBounds_ne Zo,h3],q1,q2,q3⟩
 heads:=by
  obtain⟨t,hs,h1,h2,h3,h4⟩:=h.heads
  by_cases e:hb=m
  ·have hn:=h4 e
   subst e
   exact⟨t,_,h1.set_ o v,by simpa using h2,fun i hi=>by rw[Array.getElem?_setIfInBounds_ne Zo,h3 i hi],h4⟩
  ·exact⟨t,hs,h1.far (p:=⟨m,o,none⟩) e v,h2,h3,h4⟩
 ent:=fun x hx=>by
  obtain⟨mk,mv,h1,h2,h3⟩:=h.ent x hx
  exact⟨mk,mv,h1.far (p:=⟨m,o,none⟩) (h.far x hx).1 v,K7 [v] o h2 h.out.1,K7 [v] o h3 h.out.1⟩
 nd:=h.nd
 far:=h.far
 out:=h.out
 ok:=h.ok
 dlt:=fun b hd=>by rw[B7];exact h.dlt b hd
theorem Raw.setFrom(h:Raw w m hb n fr tx many H N B A R D)(p:Option Addr):Raw (w.setCells m 9 [.pointer p]) m hb n p tx many H N B A R D:=
 h.setM 9 _ Zo fun cs h0 h1 h2 h3=>⟨by simp[h0],by rw[Array.getElem?_setIfInBounds_ne Zo,h2],by rw[Array.getElem?_setIfInBounds_ne Zo,h3]⟩
theorem Raw.setTo(h:Raw w m hb n fr tx many H N B A R D)(p:Option Addr):Raw (w.setCells m 10 [.pointer p]) m hb n fr p many H N B A R D:=
 h.setM 10 _ Zo fun cs h0 h1 h2 h3=>⟨by rw[Array.getElem?_setIfInBounds_ne Zo,h1],by simp[h0],by rw[Array.getElem?_setIfInBounds_ne Zo,h3]⟩
theorem Raw.setMany(h:Raw w m hb n fr tx many H N B A R D)(k:Int):Raw (w.setCells m 11 [.int .i64 k]) m hb n fr tx k H N B A R D:=
 h.setM 11 _ Zo fun cs h0 h1 h2 h3=>⟨by rw[Array.getElem?_setIfInBounds_ne Zo,h1],by rw[Array.getElem?_setIfInBounds_ne Zo,h2],by simp[h0]⟩
theorem Raw.setH(h:Raw w m hb n fr tx many H N B A R D)(i:Nat)(hi:i<n)(p:Option Addr):Raw (w.setCells hb i [.pointer p]) m hb n fr tx many (upd H i p) N B A R D where
 map:=by
  obtain⟨cs,h1,h2,h3,h4,h5,h6⟩:=h.map
  by_cases e:hb=m
  ·obtain⟨_,_,_,_,_,h7⟩:=h.heads
   have:=h7 e
   subst e
   exact⟨_,h1.set_ i _,by simpa using h2,by rw[Array.getElem?_setIfInBounds_ne Zo,h3],by rw[Array.getElem?_setIfInBounds_ne Zo,h4],by rw[Array.getElem?_setIfInBounds_ne Zo,h5],by rw[Array.getElem?_setIfInBounds_ne Zo,h6]⟩
  ·exact⟨cs,h1.far (p:=⟨hb,i,none⟩) (Ne.symm e) _,h2,h3,h4,h5,h6⟩
 heads:=by
  obtain⟨t,hs,h1,h2,h3,h4⟩:=h.heads
  refine⟨t,_,h1.set_ i _,by simpa using h2,fun j hj=> ?_,h4⟩
  by_cases e:j=i
  ·subst e
   rw[H6,Array.getElem?_setIfInBounds_self_of_lt Zo]
  ·rw[J8 e,Array.getElem?_setIfInBounds_ne Zo,h3 j hj]
 ent:=fun x hx=>by
  obtain⟨mk,mv,h1,h2,h3⟩:=h.ent x hx
  exact⟨mk,mv,h1.far (p:=⟨hb,i,none⟩) (h.far x hx).2 _,K7 _ i h2 h.out.2.1,K7 _ i h3 h.out.2.1⟩
 nd:=h.nd
 far:=h.far
 out:=h.out
 ok:=h.ok
 dlt:=fun b hd=>by rw[B7];exact h.dlt b hd
theorem Raw.less(h:Raw w m hb n fr tx many H N B A R D){R':List En}(hs:R'.Sublist R):Raw w m hb n fr tx many H N B A R' D where
 map:=h.map
 heads:=h.heads
 ent:=fun e he=>h.ent e (hs.subset he)
 nd:=h.nd.sublist (hs.map _)
 far:=fun e he=>h.far e (hs.subset he)
 out:=⟨h.out.1,h.out.2.1,fun e he=>h.out.2.2 e (hs.subset he)⟩
 ok:=fun e he=>h.ok e (hs.subset he)
 dlt:=h.dlt
theorem Raw.push(h:Raw w m hb n fr tx many H N B A R D)(e:En){mk mv:Dm}(hB:Blk w e.g Ny (e.cs mk mv (N e.g) (B e.g) (A e.g)))(h1:e.key.at w D mk)(h2:e.val.at w D mv)(hn: ∀x∈R,x.g≠e.g)(hm:e.g≠m)(hh:e.g≠hb)(hD: ¬D e.g)
  (ho:e.key.ok/\e.val.ok/\0<=e.hash/\e.hash<=18446744073709551615):Raw w m hb n fr tx many H N B A (e::R) D where
 map:=h.map
 heads:=h.heads
 ent:=fun x hx=>by
  rcases List.mem_cons.1 hx with rfl | hx
  ·exact⟨mk,mv,hB,h1,h2⟩
  ·exact h.ent x hx
 nd:=by
  rw[List.map_cons,List.nodup_cons]
  exact⟨fun hm=>by obtain⟨x,hx,e1⟩:=List.mem_map.1 hm;exact hn x hx e1,h.nd⟩
 far:=fun x hx=>by
  rcases List.mem_cons.1 hx with rfl | hx
  ·exact⟨hm,hh⟩
  ·exact h.far x hx
 out:=⟨h.out.1,h.out.2.1,fun x hx=>by
  rcases List.mem_cons.1 hx with rfl | hx
  ·exact hD
  ·exact h.out.2.2 x hx⟩
 ok:=fun x hx=>by
  rcases List.mem_cons.1 hx with rfl | hx
  ·exact ho
  ·exact h.ok x hx
 dlt:=h.dlt
theorem Raw.by(h:Raw w m hb n fr tx many H N B A R D){fr' tx':Option Addr}{many':Int}{H' N' B' A':Nat->Option Addr}(h1:fr=fr')(h2:tx=tx')(h3:many=many')(h4: ∀i,i<n->H i=H' i)(h5: ∀e∈R,N e.g=N' e.g/\B e.g=B' e.g/\A e.g=A' e.g):
    Raw w m hb n fr' tx' many' H' N' B' A' R D:=by
  subst h1 h2 h3
  exact { map := h.map, heads := let ⟨t, hs, q1, q2, q3, q4⟩ := h.heads; ⟨t, hs, q1, q2, fun i hi => by rw [← h4 i hi]; exact q3 i hi, q4⟩,
          ent:=fun e he=>by
            obtain⟨q1,q2,q3⟩:=h5 e he
            rw[<-q1,<-q2,<-q3]
            exact h.ent e he,
          nd:=h.nd,far:=h.far,out:=h.out,ok:=h.ok,dlt:=h.dlt}
end
end Go.Proofs.YtbjegfpfmnleeaaGreatDoor
namespace Go.Proofs.YtbjegfpfmnleeaaGreatDoor
def Ep(f:Nat):Bool:=decide (f / 4503599627370496 % 2048=2047/\f % 4503599627370496≠0)
def Q6(f:Nat):Int:=if f / 9223372036854775808 % 2=1 then-((f % 9223372036854775808:Nat):Int) else((f % 9223372036854775808:Nat):Int)
def As8(r:Nat):Nat:=if r<4503599627370496 then r else(4503599627370496+r % 4503599627370496)*2 ^ (r / 4503599627370496-1)
theorem Tl{r s:Nat}(h:r<s):As8 r<As8 s:=by
 unfold As8
 by_cases h1:r<4503599627370496
 ·rw[if_pos h1]
  by_cases h2:s<4503599627370496
  ·rw[if_pos h2];exact h
  ·rw[if_neg h2]
   have h3:1<=2 ^ (s / 4503599627370496-1):=Nat.one_le_two_pow
   have h4:=Nat.mul_le_mul_left (4503599627370496+s % 4503599627370496) h3
   omega
 ·have h2: ¬s<4503599627370496:=by omega
  rw[if_neg h1,if_neg h2]
  have q1:1<=r / 4503599627370496:=by omega
  rcases Nat.lt_or_ge (r / 4503599627370496) (s / 4503599627370496) with hq | hq
  ·have h5:2 ^ (r / 4503599627370496)<=2 ^ (s / 4503599627370496-1):=Nat.pow_le_pow_right Zd Zo
   have h6:2 ^ (r / 4503599627370496)=2*2 ^ (r / 4503599627370496-1):=by
    rw[<-Nat.pow_succ',Nat.succ_eq_add_one,Nat.sub_add_cancel q1]
   have h7:=Nat.mul_le_mul_left (4503599627370496+s % 4503599627370496) h5
   have h8:0<2 ^ (r / 4503599627370496-1):=Nat.two_pow_pos _
   have h9:(4503599627370496+r % 4503599627370496)*2 ^ (r / 4503599627370496-1)<9007199254740992*2 ^ (r / 4503599627370496-1):=Nat.mul_lt_mul_of_pos_right Zo h8
   have h10:4503599627370496*2 ^ (r / 4503599627370496)<=(4503599627370496+s % 4503599627370496)*2 ^ (r / 4503599627370496):=Nat.mul_le_mul_right _ Zo
   rw[h6] at h10 h7
   have h11:4503599627370496*(2*2 ^ (r / 4503599627370496-1))=9007199254740992*2 ^ (r / 4503599627370496-1):=by rw[<-Nat.mul_assoc]
   rw[h11] at h10
   exact Nat.lt_of_lt_of_le h9 (Nat.le_trans h10 h7)
  ·have hqe:r / 4503599627370496=s / 4503599627370496:=by
    have:r / 4503599627370496<=s / 4503599627370496:=Nat.div_le_div_right Zo
    omega
   rw[hqe]
   exact Nat.mul_lt_mul_of_pos_right Zo (Nat.two_pow_pos _)
def sg(s:Bool)(v:Nat):Int:=if s then-(v:Int) else v
theorem Bh2{a b c d:Int}(h1:a<b↔c<d)(h2:b<a↔d<c):compare a b=compare c d:=by
 simp only[compare,compareOfLessAndEq]
 by_cases h:a<b
 ·rw[if_pos h,if_pos (h1.1 h)]
 ·rw[if_neg h,if_neg (fun e=>h (h1.2 e))]
  by_cases e:a=b
  ·have:c=d:=by
    have n1: ¬c<d:=fun e'=>h (h1.2 e')
    have n2: ¬d<c:=fun e'=>by have:=h2.2 e';omega
    omega
   rw[if_pos e,if_pos this]
  ·have: ¬c=d:=by
    have:=h2.1 Zo
    omega
   rw[if_neg e,if_neg this]
theorem Ch5(s t:Bool)(f:Nat->Nat)(hf: ∀{r s},r<s->f r<f s)(h0:f 0=0)(a b:Nat):(sg s (f a)<sg t (f b)↔sg s a<sg t b):=by
 have m: ∀x y,f x<f y↔x<y:=fun x y=>⟨fun h=>by
  rcases Nat.lt_trichotomy x y with h1 | h1 | h1
  ·exact h1
  ·subst h1;omega
  ·have:=hf h1;omega,hf⟩
 have p: ∀x,0<f x↔0<x:=fun x=>by rw[<-h0];simpa[h0] using m 0 x
 have a1:=p a;have b1:=p b;have m1:=m a b;have m2:=m b a
 cases s<;>cases t<;>simp only[sg,if_true,if_false,Bool.false_eq_true]<;>omega
def Bh3(r:Nat):Nat:=if r<4503599627370496 then r else 4503599627370496+r % 4503599627370496
theorem Bh4(r:Nat):As8 r=Bh3 r*2 ^ (r / 4503599627370496-1):=by
 unfold As8 Bh3
 by_cases h:r<4503599627370496
 ·rw[if_pos h,if_pos h,show r / 4503599627370496-1=0 by omega];omega
 ·rw[if_neg h,if_neg h]
theorem bin:({exponentBits:=11,fractionBits:=52}:Ieee.Format).binade=4503599627370496:=by decide
theorem Ch6(a:Nat):FloatKind.f64.format.read a=
  if a % 9223372036854775808<9218868437227405312 then .number (a / 9223372036854775808 % 2==1) (Bh3 (a % 9223372036854775808)) (-1074+((a % 9223372036854775808 / 4503599627370496-1:Nat):Int))
  else if a % 9223372036854775808=9218868437227405312 then .infinity (a / 9223372036854775808 % 2==1)
  else .nan (a / 9223372036854775808 % 2==1) (a % 9223372036854775808-9218868437227405312):=by
 unfold FloatKind.format Ieee.double Ieee.Format.read Ieee.Format.signWeight Ieee.Format.infRung Ieee.Format.leastPlace
 simp only[bin]
 have e1:(2:Nat) ^ (11+52)=9223372036854775808:=by decide
 have e2:((2:Nat) ^ 11-1)*4503599627370496=9218868437227405312:=by decide
 have e3:(2-2 ^ (11-1)-((52:Nat):Int):Int)= -1074:=by decide
 simp only[e1,e2,e3]
 unfold Bh3
 generalize a % 9223372036854775808=r
 by_cases h1:r<4503599627370496
 ·rw[if_pos h1,if_pos Zo,if_pos h1,show r / 4503599627370496-1=0 by omega];simp
 ·rw[if_neg h1]
  by_cases h2:r<9218868437227405312
  ·rw[if_pos h2,if_pos h2,if_neg h1]
  ·rw[if_neg h2,if_neg h2]
theorem Iz(a:Nat):Q6 a=sg (a / 9223372036854775808 % 2==1) (a % 9223372036854775808):=by
 unfold Q6 sg
 by_cases h:a / 9223372036854775808 % 2=1<;>simp[h]
theorem Tn(a:Nat):Ep a=decide (9218868437227405312<a % 9223372036854775808):=by
 unfold Ep
 rw[decide_eq_decide]
 omega
theorem Fk(s:Bool)(m c d:Nat):Ieee.signed s m (c+d)=Ieee.signed s m c*((2 ^ d:Nat):Int):=by
 unfold Ieee.signed
 rw[Nat.shiftLeft_eq,Nat.shiftLeft_eq,Nat.pow_add,<-Nat.mul_assoc]
 cases s
 ·simp only[Bool.false_eq_true,if_false];exact Int.natCast_mul _ _
 ·simp only[if_true];rw[Int.natCast_mul,Int.neg_mul]
theorem Fl(s:Bool)(r:Nat):Ieee.signed s (Bh3 r) (r / 4503599627370496-1)=sg s (As8 r):=by
 unfold Ieee.signed sg
 rw[Nat.shiftLeft_eq,Bh4]
theorem Fm(a b:Int)(p:Nat)(hp:0<p):a<b↔a*(p:Int)<b*(p:Int):=
 ⟨fun h=>Int.mul_lt_mul_of_pos_right h Zo,fun h=>Int.lt_of_mul_lt_mul_right h Zo⟩
theorem Tp{a b:Int}(h:a<b):compare a b=.lt:=by simp[compare,compareOfLessAndEq,h]
theorem Tq{a b:Int}(h:b<a):compare a b=.gt:=by simp only[compare,compareOfLessAndEq];rw[if_neg Zo,if_neg Zo]
theorem Nl(a:Int):compare a a=.eq:=by simp[compare,compareOfLessAndEq]
theorem Af1(a b:Nat):FloatKind.f64.format.order a b=if(Ep a||Ep b)=true then none else some (compare (Q6 a) (Q6 b)):=by
  unfold Ieee.Format.order
  rw[Ch6,Ch6,Iz,Iz,Tn,Tn]
  generalize (a / 9223372036854775808 % 2==1)=s
  generalize (b / 9223372036854775808 % 2==1)=t
  generalize a % 9223372036854775808=r
  generalize b % 9223372036854775808=q
  rcases Nat.lt_trichotomy r 9218868437227405312 with h1 | h1 | h1<;>rcases Nat.lt_trichotomy q 9218868437227405312 with h2 | h2 | h2
  · rw[if_pos h1,if_pos h2,decide_eq_false Zo,decide_eq_false Zo,if_neg (by simp)]
    simp only[Ieee.Datum.order]
    have ka:=Fl s r
    have kb:=Fl t q
    generalize r / 4503599627370496-1=x at*
    generalize q / 4503599627370496-1=y at*
    have e1:((-1074+(x:Int))-min (-1074+(x:Int)) (-1074+(y:Int))).toNat=x-min x y:=by omega
    have e2:((-1074+(y:Int))-min (-1074+(x:Int)) (-1074+(y:Int))).toNat=y-min x y:=by omega
    rw[e1,e2]
    have m1:=Fk s (Bh3 r) (x-min x y) (min x y)
    have m2:=Fk t (Bh3 q) (y-min x y) (min x y)
    rw[show x-min x y+min x y=x by omega,ka] at m1
    rw[show y-min x y+min x y=y by omega,kb] at m2
    have hp:0<2 ^ min x y:=Nat.two_pow_pos _
    refine congrArg some (Bh2 ?_ ?_)
    · rw[Fm _ _ _ hp,<-m1,<-m2]
      exact Ch5 s t As8 (fun h=>Tl h) Zd r q
    · rw[Fm _ _ _ hp,<-m1,<-m2]
      exact Ch5 t s As8 (fun h=>Tl h) Zd q r
  all_goals
    first
      | (rw[decide_eq_true h1];simp[Ieee.Datum.order,show ¬r<9218868437227405312 by omega,show ¬r=9218868437227405312 by omega];done)
      | (rw[decide_eq_true h2];simp[Ieee.Datum.order,h1,show ¬q<9218868437227405312 by omega,show ¬q=9218868437227405312 by omega];done)
      | (rw [decide_eq_false (show ¬ 9218868437227405312 < r by omega), decide_eq_false (show ¬ 9218868437227405312 < q by omega), if_neg (show ¬ (false || false) = true by simp)]
         first
           | (rw [if_pos h1, if_neg (show ¬ q < 9218868437227405312 by omega), if_pos h2]
              cases t
              · rw[Tp (b:=sg false q) (by cases s<;>simp only[sg,if_true,if_false,Bool.false_eq_true]<;>omega)];rfl
              · rw[Tq (b:=sg true q) (by cases s<;>simp only[sg,if_true,if_false,Bool.false_eq_true]<;>omega)];rfl)
           | (rw [if_pos h2, if_neg (show ¬ r < 9218868437227405312 by omega), if_pos h1]
              cases s
              · rw[Tq (a:=sg false r) (by cases t<;>simp only[sg,if_true,if_false,Bool.false_eq_true]<;>omega)];rfl
              · rw[Tp (a:=sg true r) (by cases t<;>simp only[sg,if_true,if_false,Bool.false_eq_true]<;>omega)];rfl)
           | (rw [if_neg (show ¬ q < 9218868437227405312 by omega), if_pos h2, if_neg (show ¬ r < 9218868437227405312 by omega), if_pos h1]
              have hrq:r=q:=by omega
              subst hrq
              clear h2
              have hr:0<r:=by omega
              clear h1
              cases s<;>cases t
              · rw[Nl];rfl
              · rw[Tq (a:=sg false r) (by simp only[sg,if_true,if_false,Bool.false_eq_true];omega)];rfl
              · rw[Tp (a:=sg true r) (by simp only[sg,if_true,if_false,Bool.false_eq_true];omega)];rfl
              · rw[Nl];rfl))
theorem Qk(a b:Int):(compare a b==.eq)=decide (a=b):=by
 simp only[compare,compareOfLessAndEq]
 by_cases h:a<b
 ·rw[if_pos h,decide_eq_false Zo];rfl
 ·rw[if_neg h]
  by_cases e:a=b
  ·rw[if_pos e,decide_eq_true e];rfl
  ·rw[if_neg e,decide_eq_false e];rfl
theorem Af2(x y:Ordering):((some x:Option Ordering)==some y)=(x==y):=rfl
def Ih(a b:Nat):Bool:= !Ep a&& !Ep b&&decide (Q6 a=Q6 b)
theorem feq(a b:Nat):(FloatKind.f64.format.order a b==some .eq)=Ih a b:=by
 rw[Af1,Ih]
 cases Ep a<;>cases Ep b<;>simp only[Bool.or_self,Bool.or_true,Bool.or_false,if_true,if_false,Bool.false_eq_true,Bool.not_true,Bool.not_false,Bool.false_and,Bool.and_false,Bool.true_and,Af2,Qk]<;>rfl
theorem fne(a b:Nat):(FloatKind.f64.format.order a b != some .eq)= !Ih a b:=by rw[<-feq];rfl
theorem Nm(a:Nat):Ih a a= !Ep a:=by simp[Ih]
theorem Br(n:Int)(w:World):(callFunc 114 #[.int .u64 n]).run Tryz.prog w=.ok (.value (.float .f64 n.toNat)) w:=by kernel_rfl
set_option maxHeartbeats 400000 in
theorem Tk(f:Nat)(w:World):Calls Tryz.prog 113 #[.float .f64 f] w fun e w'=>e=.returned (.bool (Ep f))/\w=w':=by
 have hf:=fne f f
 rw[Nm,Bool.not_not] at hf
 go_enter Tryz.func113,Tryz.ntmps113
 go_wp2
 go_ret
 exact⟨rfl,rfl⟩
end Go.Proofs.YtbjegfpfmnleeaaGreatDoor
namespace Go.Proofs.YtbjegfpfmnleeaaGreatDoor
open Go.RowKit
def Ac0(kind:Int):ByteArray:=(ownL[kind.toNat]?).getD ⟨#[]⟩
def K8(h:Hd):Bool:=if h.kind<8 then(decide (h.kind≠0)&&(T5 h.type||decide (h.type=Ac0 h.kind)))||(decide (h.kind=0)&&decide (h.type.size=0)) else T5 h.type
def Aq1(h:Hd):Bool:=K8 h&&decide (h.kind=2\/h.n=0\/(h.kind=1/\h.n=1))
def Ac1:Int:=9221120237041090561
def Ad8(h:Hd):Bool:=Aq1 h&&(decide (h.f=0)||(decide (h.kind=3)&& !(decide (h.f≠Ac1)&&Ep h.f.toNat)))
def okB(h:Hd):Bool:=Ad8 h&&(decide (h.s.size=0)||decide (h.kind=4/\h.s.size<=65536))
def K9(h:Hd)(len:Nat):Bool:=decide (0<=h.kind/\h.kind<=9)&&M6 h.kind h.obj h.frm h.len h.cap h.path&&okB h&&decide (len=0\/h.kind=8)&&decide (len<=30)
def I0:Fo->Int->Bool×Int
 | .nil,n=>(true,n)
 | .cons h k r,n=>if n-1<0 then(false,n-1) else if K9 h k.len=false then(false,n-1) else if(I0 k (n-1)).1=true then I0 r (I0 k (n-1)).2 else(false,(I0 k (n-1)).2)
def I8(h:Hd)(k:Fo)(n:Int):Bool×Int:=if n-1<0 then(false,n-1) else if K9 h k.len=false then(false,n-1) else I0 k (n-1)
theorem W5(h:Hd)(k r:Fo)(n:Int):I0 (.cons h k r) n=if(I8 h k n).1=true then I0 r (I8 h k n).2 else(false,(I8 h k n).2):=by
 unfold I8
 rw[I0]
 by_cases h1:n-1<0
 ·simp[h1]
 ·by_cases h2:K9 h k.len=false
  ·simp[h1,h2]
  ·simp[h1,h2]
theorem Eb: ∀(f:Fo) (n:Int),0<=n->(I0 f n).1=true->0<=(I0 f n).2/\(I0 f n).2<=n
 | .nil,n,h0,_=>⟨h0,Int.le_refl _⟩
 | .cons h k r,n,h0,ht=>by
  rw[I0] at ht ⊢
  by_cases h1:n-1<0
  ·simp[h1] at ht
  ·by_cases h2:K9 h k.len=false
   ·simp[h1,h2] at ht
   ·simp only[if_neg h1,if_neg h2] at ht ⊢
    by_cases h3:(I0 k (n-1)).1=true
    ·rw[if_pos h3] at ht ⊢
     have a:=Eb k (n-1) Zo h3
     have b:=Eb r _ a.1 ht
     omega
    ·rw[if_neg h3] at ht;cases ht
theorem Ac2{h:Hd}{k:Fo}{n:Int}(h0:0<=n)(ht:(I8 h k n).1=true):0<=(I8 h k n).2/\(I8 h k n).2<=n:=by
 have e:=W5 h k .nil n
 rw[if_pos ht] at e
 have:=Eb (.cons h k .nil) n h0 (by rw[e];rfl)
 rw[e] at this
 exact this
def Pu(h:Hd)(k:Fo):Prop:= ∀(w:World) (S:Nat->Prop) (L:Nat) (n:Int) (pa:Option Addr) (pc:Nat) (ia:Option Addr) (ic:Nat),DatAt w S h k pa pc ia ic->¬S L->L≠0->OwnAt w->
 Blk w L 3 #[.int .i64 n]-> -1000<=n->n<=1000->
 Calls Tryz.prog 94 #[.agg (h.cells pa pc ia k.len ic),.pointer (some ⟨L,0,none⟩)] w fun e w'=>
  e=.returned (.bool (I8 h k n).1)/\Blk w' L 3 #[.int .i64 (I8 h k n).2]/\w.grownBy w' (some L)
def Z8(h:Hd)(n:Int):Bool:=decide (n-1<0\/h.kind<0\/9<h.kind)|| !M6 h.kind h.obj h.frm h.len h.cap h.path
def wr1(w:World)(L:Nat)(n:Int)(cs:Array Value):World:=(w.setCell ⟨L,0,none⟩ (.int .i64 (n-1))).alloc (.cells cs 53)
theorem Pv(w:World)(L:Nat)(n:Int)(cs:Array Value):(wr1 w L n cs).heap.size=w.heap.size+1:=by simp[wr1,World.setCell]
theorem Cc8(w:World)(L:Nat)(n:Int)(cs:Array Value):Blk (wr1 w L n cs) w.heap.size 53 cs:=by
 have:=Blk.new (w.setCell ⟨L,0,none⟩ (.int .i64 (n-1))) 53 cs
 simpa[World.setCell,wr1] using this
theorem Ac3(w:World)(L:Nat)(n:Int)(cs:Array Value)(b:Nat)(hb:b<w.heap.size)(hL:b≠L):(wr1 w L n cs).heap[b]? =w.heap[b]? :=by
 unfold wr1
 rw[Below.heap_alloc _ _ _ (by simpa[World.setCell] using hb),Below.heap_setCell _ _ _ _ hL]
theorem Aq2{w:World}{L:Nat}{n m:Int}(cs:Array Value)(h:Blk w L 3 #[.int .i64 m]):Blk (wr1 w L n cs) L 3 #[.int .i64 (n-1)]:=(h.set_ 0 (.int .i64 (n-1))).alloc _
theorem Ac4{w w':World}{L:Nat}{n:Int}{cs:Array Value}(h:Below (w.heap.size+1) (wr1 w L n cs) w'):w.grownBy w' (some L):=
 ⟨h.os,h.tape,h.output,by have:=h.size;rw[Pv] at this;omega,fun b hb hne=>(h.block b Zo).trans (Ac3 w L n cs b hb (fun e=>hne (by rw[e])))⟩
theorem OwnAt.grown{w w':World}{L:Nat}(h:OwnAt w)(hg:w.grownBy w' (some L))(hL0:L≠0):OwnAt w':=fun j s e=>
 (World.cell?_of_block (w:=w) (hg.block 0 (H0 (h j s e)) (fun e=>hL0 (by injection e with e;exact e.symm)))).trans (h j s e)
theorem OwnAt.at_{w:World}(h:OwnAt w){kind:Int}(h0:0<=kind)(h8:kind<8):w.cell? ⟨0,kind.toNat,none⟩=some (.string (Ac0 kind)):=by
 have hl:kind.toNat<ownL.length:=by show _<8;omega
 refine h _ _ ?_
 unfold Ac0
 rw[List.getElem?_eq_getElem hl];rfl
theorem Lj{h:Hd}{k:Fo}{n:Int}(hs:Z8 h n=true):I8 h k n=(false,n-1):=by
 unfold I8
 by_cases h1:n-1<0
 ·rw[if_pos h1]
 ·rw[if_neg h1,if_pos]
  unfold Z8 at hs
  unfold K9
  by_cases h2:h.kind<0\/9<h.kind
  ·rw[decide_eq_false (show ¬(0<=h.kind/\h.kind<=9) by omega)];simp
  ·rw[decide_eq_false Zo] at hs
   simp at hs
   simp[hs]
theorem Ac5{h:Hd}{k:Fo}{n:Int}(hs:Z8 h n=false):I8 h k n=if(okB h&&decide (k.len=0\/h.kind=8)&&decide (k.len<=30))=false then(false,n-1) else I0 k (n-1):=by
 unfold Z8 at hs
 simp only[Bool.or_eq_false_iff,decide_eq_false_iff_not,Bool.not_eq_false'] at hs
 obtain⟨h1,h2⟩:=hs
 unfold I8 K9
 rw[if_neg Zo,decide_eq_true (show 0<=h.kind/\h.kind<=9 by omega),h2]
 simp
set_option maxRecDepth 100000 in
set_option maxHeartbeats 4000000 in
theorem Ll(h:Hd)(k:Fo)(ho:h.ok)(hk:k.ok)(ih: ∀i h' k',k.get i=some (h',k')->Pu h' k'):Pu h k:=by
 intro w S L n pa pc ia ic hd hL hL0 hown hbl n0 n1
 unfold Hd.cells
 have hLc:=hbl.cell 0
 simp at hLc
 have hLf:=hbl.frozen 0
 have hLlt:=hbl.lt
 have hold: ∀(cs:Array Value) (b:Nat),S b->b<w.heap.size->(wr1 w L n cs).heap[b]? =w.heap[b]? :=fun cs b hb hlt=>by
  exact Ac3 w L n cs b hlt (fun e=>hL (e ▸ hb))
 have hp1:PathAt (wr1 w L n (h.cells pa pc ia k.len ic)) (fun _=>True) pa h.path:=hd.path.keep (hold _) (fun _ _ _=>trivial)
 unfold wr1 Hd.cells at hp1
 have hpl:h.path.length<=9223372036854775807:=Nat.le_trans ho.path Zd
 go_enter Tryz.func94,Tryz.ntmps94
 go_upto_region 2 with fail
 go_cut [0,35] (fun _ t wx=>t=.bool (Z8 h n)/\Below (w.heap.size+1) (wr1 w L n #[.int .i64 h.kind,.string h.type,.int .i64 h.n,.int .u64 h.f,.string h.s,.int .i64 h.obj,.int .i64 h.frm,.int .i64 h.len,.int .i64 h.cap,.slice pa h.path.length pc,.slice ia k.len ic]) wx)
 case first=>
  as_aux_lemma=>
   go_wp2_with (go_at_call 111;go_must (refine(Ab3 _ _ _ _ _ h.path pa pc _ hpl hp1).mono ?_);rintro e w1 ⟨rfl,hb1⟩)
   all_goals
    go_meet
    case rel=>
     refine⟨?_, ?_⟩
     ·simp_all [Z8]<;>first | omega | grind
     ·unfold wr1
      first
       | exact Below.refl _ _
       | exact hb1.mono (by simp[World.setCell])
 case rest=>
  obtain⟨rfl,hbc⟩:=hcut
  clear hp1 hLc hLf
  have hlt1:w.heap.size+1<=wc.heap.size:=by have:=hbc.size;rw[Pv] at this;exact this
  have hbox:CellsAt wc w.heap.size 0 (h.cells pa pc ia k.len ic):=(CellsAt.of_blk (Cc8 w L n _)).below hbc Zo
  have hblk:Blk wc L 3 #[.int .i64 (n-1)]:=(Aq2 _ hbl).below hbc Zo
  have hgr:=Ac4 hbc
  obtain⟨c0,c1,c2,c3,c4,c5,c6,c7,c8,c9,c10⟩:=hbox.box
  have hownc:OwnAt wc:=fun j s e=>(World.cell?_of_block (w:=w) (hgr.block 0 (H0 (hown j s e)) (fun e=>hL0 (by injection e with e;exact e.symm)))).trans (hown j s e)
  by_cases hst:Z8 h n=true
  ·have HD:=Lib.hid (Lj (k:=k) hst)
   rw[hst]
   clear hst
   go_wp2_with fail
   go_ret
   rw[HD.out]
   exact⟨rfl,hblk,hgr⟩
  ·have hst':Z8 h n=false:=by simpa using hst
   have HD:=Lib.hid (Ac5 (k:=k) hst')
   rw[hst']
   have hk0:0<=h.kind/\h.kind<=9/\0<=n-1:=by
    unfold Z8 at hst'
    simp only[Bool.or_eq_false_iff,decide_eq_false_iff_not] at hst'
    omega
   obtain⟨hk0,hk9,hn1⟩:=hk0
   clear hst hst' hbc hown hbl
   go_wp2_with fail
   refine(Li _ _ hownc).mono ?_
   rintro e w1 ⟨rfl,hb1⟩
   have hgr1:=Mx hgr hb1
   have hbox1:=hbox.below hb1 Zo
   have hblk1:=hblk.below hb1 Zo
   have hown1:=hownc.below hb1 (Nat.le_refl _)
   have hlt2:w.heap.size+1<=w1.heap.size:=Nat.le_trans hlt1 hb1.size
   clear c0 c1 c2 c3 c4 c5 c6 c7 c8 c9 c10 hb1 hlt1 hbox hblk hownc hgr
   obtain⟨c0,c1,c2,c3,c4,c5,c6,c7,c8,c9,c10⟩:=hbox1.box
   go_upto_if 41 with fail
   go_cut [5] (fun t wx=>t=.bool (K8 h)/\∃m,wx=w1.drewN m)
   case first=>
    as_aux_lemma=>
     by_cases hk8:h.kind<8
     ·have hoc:=hown1.at_ hk0 hk8
      by_cases hz:h.kind=0
      ·have hz1:(h.kind != 0)=false:=by simpa using hz
       have hz2:(h.kind==0)=true:=by simpa using hz
       by_cases hty:h.type.toList.isEmpty=true
       ·have HN:Hid (K8 h=true):=by
         have hs:=Ea h.type (by simpa using hty)
         simp only[Hid,K8,if_pos hk8,decide_eq_true hz,decide_eq_true hs];simp
        have HZ:=Lib.hid hz
        clear hz hoc
        go_wp2_with fail
        go_quiet (fail)
        go_wp2_with fail
        go_meet
        case rel=>exact⟨by rw[HN.out],_,rfl⟩
       ·have HN:Hid (K8 h=false):=by
         have hs:=Ia h.type (by simpa using hty)
         simp only[Hid,K8,hz,decide_eq_false hs];simp
        have hty':h.type.toList.isEmpty=false:=by simpa using hty
        clear hty hoc hz
        go_wp2_with fail
        go_quiet (fail)
        go_wp2_with fail
        go_meet
        case rel=>exact⟨by rw[HN.out],_,rfl⟩
      ·have hz1:(h.kind != 0)=true:=by simpa using hz
       have hz2:(h.kind==0)=false:=by simpa using hz
       have hz3:1<=h.kind:=by omega
       by_cases hdb:T5 h.type=true
       ·have HN:Hid (K8 h=true):=by
         simp only[Hid,K8,if_pos hk8,decide_eq_true hz,hdb];simp
        rw[hdb]
        clear hdb hz
        go_wp2_with fail
        go_quiet (fail)
        go_wp2_with fail
        go_meet
        case rel=>exact⟨by rw[HN.out],_,rfl⟩
       ·have hdb':T5 h.type=false:=by simpa using hdb
        by_cases hty:(h.type.toList==(Ac0 h.kind).toList)=true
        ·have HN:Hid (K8 h=true):=by
          have:=Ab9 hty
          simp only[Hid,K8,if_pos hk8,decide_eq_true this,decide_eq_true hz];simp
         rw[hdb']
         clear hz hdb hdb'
         go_wp2_with fail
         go_quiet (fail)
         go_wp2_with fail
         go_meet
         case rel=>exact⟨by rw[HN.out],_,rfl⟩
        ·have hty':(h.type.toList==(Ac0 h.kind).toList)=false:=by simpa using hty
         have HN:Hid (K8 h=false):=by
          have:=Be9 hty'
          simp only[Hid,K8,if_pos hk8,decide_eq_false this,decide_eq_false hz,hdb'];simp
         rw[hdb']
         clear hz hdb hdb' hty
         go_wp2_with fail
         go_quiet (fail)
         go_wp2_with fail
         go_meet
         case rel=>exact⟨by rw[HN.out],_,rfl⟩
     ·have HN:Hid (T5 h.type=K8 h):=by simp only[Hid,K8,if_neg hk8]
      have hk8':8<=h.kind:=by omega
      clear hk8
      go_wp2_with fail
      go_meet
      case rel=>exact⟨by rw[HN.out],0,rfl⟩
   case rest=>
    obtain⟨rfl,m1,rfl⟩:=hcut
    go_upto_region 7 with fail
    go_cut [5,6] (fun _ t wx=>t=.bool (Aq1 h)/\wx=w1.drewN m1)
    case first=>
     as_aux_lemma=>
      by_cases hnb:K8 h=true
      ·rw[hnb]
       have HN:Hid (Aq1 h=decide (h.kind=2\/h.n=0\/(h.kind=1/\h.n=1))):=by simp only[Hid,Aq1,hnb];simp
       clear hnb
       go_wp2_with fail
       all_goals
        go_meet
        case rel=>exact⟨by rw[HN.out];(first | rfl | (refine congrArg Value.bool (Bool.eq_iff_iff.2 ?_);simp only[decide_eq_true_iff,beq_iff_eq,Bool.or_eq_true,true_iff];omega)),rfl⟩
      ·have hnb':K8 h=false:=by simpa using hnb
       rw[hnb']
       have HN:Hid (Aq1 h=false):=by simp only[Hid,Aq1,hnb'];simp
       clear hnb hnb'
       go_wp2_with fail
       go_meet
       case rel=>exact⟨by rw[HN.out],rfl⟩
    case rest=>
     obtain⟨rfl,rfl⟩:=hcut
     have hff:=Br h.f
     go_upto_region 8 with fail
     go_cut [6] (fun t wx=>t=.bool (Ad8 h)/\wx=w1.drewN m1)
     case first=>
      as_aux_lemma=>
       by_cases hnb:Aq1 h=true
       ·rw[hnb]
        have HN:Hid (Ad8 h=(decide (h.f=0)||(decide (h.kind=3)&& !(decide (h.f≠Ac1)&&Ep h.f.toNat)))):=by simp only[Hid,Ad8,hnb];simp
        clear hnb
        go_wp2_with (go_at_call 113;refine(Tk _ _).mono ?_;rintro e w' ⟨rfl,rfl⟩)
        all_goals
         go_meet
         case rel=>
          refine⟨?_,rfl⟩
          rw[HN.out]
          by_cases e1:h.f=0<;>by_cases e2:h.kind=3<;>by_cases e3:h.f=Ac1<;>unfold Ac1 at e3<;>cases hN:Ep h.f.toNat<;>first | (exfalso;omega) | (simp[e1,e2,e3,Ac1];done)
       ·have hnb':Aq1 h=false:=by simpa using hnb
        rw[hnb']
        have HN:Hid (Ad8 h=false):=by simp only[Hid,Ad8,hnb'];simp
        clear hnb hnb'
        go_wp2_with fail
        go_meet
        case rel=>exact⟨by rw[HN.out],rfl⟩
     case rest=>
      obtain⟨rfl,rfl⟩:=hcut
      clear hff
      go_upto_region 9 with fail
      go_cut [6] (fun t wx=>t=.bool (okB h)/\wx=w1.drewN m1)
      case first=>
       as_aux_lemma=>
        by_cases hnb:Ad8 h=true
        ·rw[hnb]
         have HN:Hid (okB h=(decide (h.s.size=0)||decide (h.kind=4/\h.s.size<=65536))):=by simp only[Hid,okB,hnb];simp
         clear hnb
         by_cases hse:h.s.toList.isEmpty=true
         ·have hs0:=Lib.hid (Ea h.s (by simpa using hse))
          go_wp2_with fail
          go_meet
          case rel=>exact⟨by rw[HN.out,decide_eq_true hs0.out];rfl,rfl⟩
         ·have hs0:=Lib.hid (Ia h.s (by simpa using hse))
          have hse':h.s.toList.isEmpty=false:=by simpa using hse
          clear hse
          go_wp2_with fail
          all_goals
           go_meet
           case rel=>exact⟨by rw[HN.out,decide_eq_false hs0.out,Bool.false_or];(first | rfl | (refine congrArg Value.bool (Bool.eq_iff_iff.2 ?_);simp only[decide_eq_true_iff,Bool.false_eq_true,false_iff,not_and];omega)),rfl⟩
        ·have hnb':Ad8 h=false:=by simpa using hnb
         rw[hnb']
         have HN:Hid (okB h=false):=by simp only[Hid,okB,hnb'];simp
         clear hnb hnb'
         go_wp2_with fail
         go_meet
         case rel=>exact⟨by rw[HN.out],rfl⟩
      case rest=>
       obtain⟨rfl,rfl⟩:=hcut
       have hkl:k.len<=9223372036854775807:=Nat.le_trans hd.icLe hd.icMax.1
       go_upto_region 10 with fail
       go_cut [6,146] (fun _ t wx=>t=.bool (!(okB h&&decide (k.len=0\/h.kind=8)&&decide (k.len<=30)))/\wx=w1.drewN m1)
       case first=>
        as_aux_lemma=>
         by_cases hnb:okB h=true
         ·rw[hnb]
          go_wp2_with fail
          all_goals
           go_meet
           case rel=>exact⟨by rw[hnb,Bool.true_and];(first | rfl | (refine congrArg Value.bool (Bool.eq_iff_iff.2 ?_);simp only[decide_eq_true_iff,Bool.not_eq_true',decide_eq_false_iff_not,Bool.and_eq_false_iff,true_iff,not_or];omega)),rfl⟩
         ·have hnb':okB h=false:=by simpa using hnb
          rw[hnb']
          go_wp2_with fail
          go_meet
          case rel=>exact⟨by rw[hnb'];rfl,rfl⟩
       case rest=>
        obtain⟨rfl,rfl⟩:=hcut
        by_cases hq:(okB h&&decide (k.len=0\/h.kind=8)&&decide (k.len<=30))=false
        ·have HD2:=HD.out
         rw[if_pos hq] at HD2
         have HE:=Lib.hid HD2
         rw[hq]
         clear hq HD HD2
         go_wp2_with fail
         go_ret
         rw[HE.out]
         exact⟨rfl,hblk1.drewN _,Dj hgr1 _⟩
        ·have hq':(okB h&&decide (k.len=0\/h.kind=8)&&decide (k.len<=30))=true:=by revert hq;cases (okB h&&decide (k.len=0\/h.kind=8)&&decide (k.len<=30))<;>simp
         have HD2:=HD.out
         rw[if_neg hq] at HD2
         have HE:=Lib.hid HD2
         rw[hq']
         clear hq HD HD2 hq' c0 c1 c2 c3 c4 c5 c6 c7 c8 c9 hbox1 hlt2 hold
         go_wp2_with fail
         go_loopg [150] k.len (fun g i wr=> ∃(j:Nat) (m:Int),j<=k.len/\i=.int .i64 j/\g=k.len-j/\w.grownBy wr (some L)/\Blk wr L 3 #[.int .i64 m]/\OwnAt wr/\0<=m/\m<=1000/\I0 k (n-1)=I0 (k.drop j) m)
         case atStart=>exact⟨0,n-1,Zo,rfl,Zo,Dj hgr1 _,hblk1.drewN _,hown1,Zo,Zo,by simp⟩
         case round=>
          obtain⟨j,m,hj,rfl,rfl,hg,hb,how,hm0,hm1,hn⟩:=hrel
          have HN:=Lib.hid hn
          clear hn c10 hgr1 hblk1 hown1
          by_cases hlt:j<k.len
          ·obtain⟨h',k',hget⟩:=Fo.get_lt k j hlt
           have hks:SlAt wr S ia k:=hd.kids.keep (fun b hb hlt=>hg.block b hlt (fun e=>hL (by injection e with e;rw[<-e];exact hb))) (fun _ h _=>h)
           obtain⟨b,o,rfl,hSb,pa',pc',ia',ic',hcs,hda⟩:=hks.get hget
           obtain⟨d0,d1,d2,d3,d4,d5,d6,d7,d8,d9,d10⟩:=hcs.eleven
           obtain⟨ho',hk',_⟩:=Fo.ok_get k j h' k' hk hget
           have HDr:=Lib.hid (Fo.drop_get k j h' k' hget)
           have hLc:=hb.cell 0
           simp at hLc
           have hLf:=hb.frozen 0
           have hLlt2:=hb.lt
           have hih:=ih j h' k' hget (wr.alloc (.cells (h'.cells pa' pc' ia' k'.len ic') 53)) S L m pa' pc' ia' ic'
            (hda.keep (fun b _ h=>Below.heap_alloc _ _ _ h) (fun _ h _=>h)) hL hL0 (how.below ((Below.refl _ _).alloc (Nat.le_refl _) _) (Nat.le_refl _)) (hb.alloc _) Zo Zo
           unfold Hd.cells at hih
           have HI:=Lib.hid hih
           have hle:=fun hm=>Ac2 (h:=h') (k:=k') hm0 hm
           have HL:=Lib.hid hle
           clear hih hget hcs hda ho' hk' hks hle
           go_wp2_with fail
           refine HI.out.mono ?_
           rintro e w2 ⟨rfl,hb2,hg2⟩
           have hg3:=My (Mz hg _) hg2
           have hlt3:wr.heap.size<w2.heap.size:=by have:=hg2.size;simp at this;omega
           by_cases hr:(I8 h' k' m).1=true
           ·have hle:=HL.out hr
            rw[hr]
            have HR:=Lib.hid hr
            have how2:=(how.below ((Below.refl _ _).alloc (Nat.le_refl _) _) (Nat.le_refl _)).grown hg2 hL0
            clear hr HL HI
            go_wp2_with fail
            go_roundg (k.len-(j+1))
            case measure=>omega
            case rel=>exact⟨j+1,_,Zo,by go_num,rfl,hg3,hb2,how2,hle.1,Zo,by rw[HN.out,HDr.out,W5,if_pos HR.out]⟩
           ·have hr':(I8 h' k' m).1=false:=by simpa using hr
            rw[hr']
            have HR:=Lib.hid hr'
            clear hr hr' HL HI
            go_wp2_with fail
            go_ret
            have e:I8 h k n=(false,(I8 h' k' m).2):=by rw[HE.out,HN.out,HDr.out,W5,if_neg (by rw[HR.out];simp)]
            rw[e]
            exact⟨rfl,hb2,hg3⟩
          ·have hjl:j=k.len:=by omega
           subst hjl
           go_wp2_with fail
           go_ret
           have e:I8 h k n=(true,m):=by rw[HE.out,HN.out,Fo.drop_len k _ (Nat.le_refl _)];rfl
           rw[e]
           exact⟨rfl,hb,hg⟩
theorem Ec: ∀(f:Fo),f.ok->∀i h k,f.get i=some (h,k)->Pu h k
 | .nil,_,i,h,k,e=>by simp[Fo.get] at e
 | .cons h' k' r,o,0,h,k,e=>by
  simp only[Fo.get,Option.some.injEq,Prod.mk.injEq] at e
  obtain⟨rfl,rfl⟩:=e
  exact Ll _ _ o.1 o.2.1 (Ec k' o.2.1)
 | .cons h' k' r,o,i+1,h,k,e=>Ec r o.2.2.1 i h k e
theorem Ac6(h:Hd)(k:Fo)(ho:h.ok)(hk:k.ok):Pu h k:=Ll h k ho hk (Ec k hk)
def G3(h:Hd)(k:Fo):Bool:=(I8 h k 100).1
set_option maxHeartbeats 400000 in
theorem Z9(h:Hd)(k:Fo)(ho:h.ok)(hk:k.ok)(w:World)(S:Nat->Prop)(pa:Option Addr)(pc:Nat)(ia:Option Addr)(ic:Nat)(hd:DatAt w S h k pa pc ia ic)(hown:OwnAt w):
  Calls Tryz.prog 65 #[.agg (h.cells pa pc ia k.len ic)] w fun e w'=>e=.returned (.bool (G3 h k))/\Below w.heap.size w w':=by
 have hz:0<w.heap.size:=H0 (hown 0 _ rfl)
 unfold Hd.cells
 go_enter Tryz.func65,Tryz.ntmps65
 go_wp2_with fail
 have hr:=Ac6 h k ho hk ((w.alloc (.cells (h.cells pa pc ia k.len ic) 53)).alloc (.cells #[.int .i64 100] 3)) (fun b=>b<w.heap.size) (w.heap.size+1) 100 pa pc ia ic
  (hd.keep (fun b _ h=>(Below.heap_alloc _ _ _ (by simp;omega)).trans (Below.heap_alloc _ _ _ h)) (fun b _ h=>h)) Zo Zo
  (hown.below (((Below.refl _ _).alloc (Nat.le_refl _) _).alloc (by simp) _) (Nat.le_refl _)) (by have:=Blk.new (w.alloc (.cells (h.cells pa pc ia k.len ic) 53)) 3 #[.int .i64 100];simpa using this) Zo Zo
 unfold Hd.cells at hr
 refine hr.mono ?_
 rintro e w1 ⟨rfl,_,hg⟩
 have hb:Below w.heap.size w w1:=(((Below.refl _ _).alloc (Nat.le_refl _) _).alloc (by simp) _).trans ⟨hg.os,hg.tape,hg.output,hg.size,fun b hb=>hg.block b (by simp;omega) (fun e=>by injection e;omega)⟩
 clear hr hg
 go_wp2_with fail
 go_ret
 exact⟨rfl,hb⟩
end Go.Proofs.YtbjegfpfmnleeaaGreatDoor
