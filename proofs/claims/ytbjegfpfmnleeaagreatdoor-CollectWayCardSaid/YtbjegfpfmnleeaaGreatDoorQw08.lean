/-
   Written by an AI agent.
-/
import Derived.Test.YtbjegfpfmnleeaaGreatDoorQw07
import Derived.Maps.AppendAt
import Derived.OwnWalk
import Derived.Lib.LazyBuf
import Derived.Deep.RegionHeld3
import Derived.StillTailTactics
import Derived.Deep.MidRow
import Derived.Test.YtbjegfpfmnleeaaGreatDoorQw01
import Derived.Lib.Bytealg
namespace Go.Proofs.YtbjegfpfmnleeaaGreatDoor
open Go.RowKit Go.Sort
def CloneInt(B:Nat)(l:List Int)(w:World)(e:Ending)(w':World):Prop:=
 ∃pa pc,e=.returned (.slice pa l.length pc)/\PathAt w' (fun b=>B<=b) pa l/\l.length<=pc/\capOk pa pc/\Below w.heap.size w w'
theorem info_int:(Tryz.prog.info? 3).map (fun i=>(i.zero,i.size,i.bytes))=some (some (.int .i64 0),1,8):=by kernel_rfl
theorem own_path{w:World}{B n:Nat}{v:Value}{l:List Int}(h:w.ownsRow B 3 1 v n (l.map (Value.int .i64))): ∃pa pc,v=.slice pa l.length pc/\PathAt w (fun b=>B<=b) pa l/\l.length<=pc/\capOk pa pc:=by
 have hn:n=l.length:=by have:=h.1;simpa using this.symm
 subst hn
 rcases h.2 with⟨rfl,h0⟩ | ⟨g,cap,cur,rfl,hg,hh,hc,hm,hs,ht⟩
 ·exact⟨none,0,by rw[h0],.inl (List.eq_nil_of_length_eq_zero h0),by omega,capOk.nil⟩
 ·refine⟨_,cap,rfl,.inr ⟨g,0,rfl,hg,fun j x hx=> ?_⟩,hc,capOk.some (by unfold maxLen at hm;exact hm)⟩
  rw[cell_of_row w g _ cur _ _ hh,Nat.zero_add]
  have h1:(cur.toList.take (l.length*1))[j]? =some (.int .i64 x):=by rw[ht];simp[hx]
  rw[List.getElem?_take] at h1
  split at h1
  ·simpa using h1
  ·cases h1
theorem add_addr(b o j:Nat):(Addr.mk b o none).add j=⟨b,o+j,none⟩:=by
 unfold Addr.add
 split
 ·rename_i h;subst h;rfl
 ·rfl
theorem path_news{w:World}{S:Nat->Prop}{ad:Addr}{l:List Int}(hp:PathAt w S (some ad) l): ∀(j:Nat) (u:Value),(l.map (Value.int .i64))[j]? =some u->w.cell? (ad.add j)=some u:=by
 intro j u hu
 rcases hp with rfl | ⟨b,o,h1,_,h3⟩
 ·simp at hu
 ·injection h1 with h1
  subst h1
  rw[add_addr]
  rw[List.getElem?_map] at hu
  cases hx:l[j]? with
  | none=>simp[hx] at hu
  | some x=>simp[hx] at hu;rw[h3 j x hx,hu]
set_option maxRecDepth 100000 in
set_option maxHeartbeats 800000 in
theorem cloneInt_any(l:List Int)(pa:Option Addr)(pc:Nat)(w:World)(S:Nat->Prop)(hl:l.length<=17592186043904)(hp:PathAt w S pa l):
  Calls Tryz.prog 39 #[.slice pa l.length pc] w (CloneInt w.heap.size l w):=by
 cases pa with
 | none=>
  have hl0:l=[]:=by
   rcases hp with h | ⟨b,o,h,_⟩
   ·exact h
   ·cases h
  subst hl0
  have hnil:=fun W=>Lib.run_eql_slice_nil (P:=Tryz.prog) W 24 3 none 0 pc 0 0 Tryz.underlying24
  simp only[Option.isNone] at hnil
  go_enter Tryz.func39,Tryz.ntmps39
  go_wp2_with fail
  go_ret
  exact⟨none,0,rfl,.inl rfl,by simp,capOk.nil,Below.refl _ _⟩
 | some ad=>
  obtain⟨i0,hi,hz0,hz1,hz2⟩:=info_parts info_int
  have hnil:=fun W=>Lib.run_eql_slice_nil (P:=Tryz.prog) W 24 3 (some ad) l.length pc 0 0 Tryz.underlying24
  simp only[Option.isNone] at hnil
  have hp1:=path_news (hp.keep (w':=w.alloc (.cells #[] 3)) (fun b _ h=>Below.heap_alloc _ _ _ h) (fun _ h _=>h))
  have HP:=Lib.hid hp1
  have hown:=World.ownsRow_made (base:=w.heap.size) (e:=3) (size:=1) w #[] 0 (Nat.le_refl _) (by decide) rfl
  have HOWN:=Lib.hid hown
  clear hp1 hown
  go_enter Tryz.func39,Tryz.ntmps39
  go_wp2_with (at_builtin;refine wpList_append_own_at _ rfl (.tmp 5) (.tmp 6) _ rfl w.heap.size 3 i0 _ 1 8 Tryz.underlying24 hi hz0 hz1 hz2 rfl (by omega) (.slice (some ⟨w.heap.size,0,none⟩) 0 0) 0 [] rfl HOWN.out ad l.length pc (l.map (Value.int .i64)) rfl (by simp) HP.out (by simp[Value.oneCell']) (by unfold maxLen;omega) (by omega) (by simp) ?_;intro v' w' hown' hgrow _ _)
  obtain⟨pa',pc',hv,h1,h2,h3⟩:=own_path (by simpa using hown')
  subst hv
  go_ret
  exact⟨pa',pc',rfl,h1,h2,h3,(Below.refl _ _).alloc (Nat.le_refl _) _ |>.grown hgrow (by simp) (by intro k hk;simp[Value.ownBlock] at hk;omega)⟩
theorem info_dat:(Tryz.prog.info? 53).map (fun i=>(i.zero,i.size,i.bytes))=some (some (.agg #[.int .i64 0,.string ⟨#[]⟩,.int .i64 0,.int .u64 0,.string ⟨#[]⟩,.int .i64 0,.int .i64 0,.int .i64 0,.int .i64 0,.slice none 0 0,.slice none 0 0]),11,136):=by kernel_rfl
theorem FoAt.list{w:World}{S:Nat->Prop}: ∀(f:Fo) (b o:Nat),FoAt w S b o f->∃xs:List Value,xs.length=f.len*11/\(∀(j:Nat) (u:Value),xs[j]? =some u->w.cell? ⟨b,o+j,none⟩=some u)/\∀u∈xs,u.oneCell'=true
 | .nil,_,_,_=>⟨[],rfl,fun j u h=>by simp at h,fun u h=>by simp at h⟩
 | .cons h k r,b,o,⟨⟨pa,pc,ia,ic,h1,_⟩,h6⟩=>by
  obtain⟨ys,y1,y2,y3⟩:=FoAt.list r b (o+11) h6
  refine⟨(h.cells pa pc ia k.len ic).toList++ys,by simp only[List.length_append,y1,Fo.len];simp[Hd.cells];omega,fun j u hu=> ?_,fun u hu=> ?_⟩
  ·by_cases hj:j<11
   ·rw[List.getElem?_append_left (by simpa[Hd.cells] using hj)] at hu
    exact h1 j u (by simpa using hu)
   ·rw[List.getElem?_append_right (by simp[Hd.cells];omega)] at hu
    have:=y2 _ u hu
    rwa [show o+11+(j-(h.cells pa pc ia k.len ic).toList.length)=o+j by simp[Hd.cells];omega] at this
  ·rw[List.mem_append] at hu
   rcases hu with hu | hu
   ·simp[Hd.cells] at hu
    rcases hu with rfl | rfl | rfl | rfl | rfl | rfl | rfl | rfl | rfl | rfl | rfl<;>rfl
   ·exact y3 u hu
theorem FoAt.copy{w w':World}{S:Nat->Prop}(hk: ∀b,S b->b<w.heap.size->w'.heap[b]? =w.heap[b]?): ∀(f:Fo) (b o g p:Nat),FoAt w S b o f->
  (∀(j:Nat) (u:Value),j<f.len*11->w.cell? ⟨b,o+j,none⟩=some u->w'.cell? ⟨g,p+j,none⟩=some u)->FoAt w' S g p f
 | .nil,_,_,_,_,_,_=>trivial
 | .cons h k r,b,o,g,p,⟨⟨pa,pc,ia,ic,h1,h2,h3,h3',h4,h4',h5⟩,h6⟩,hc=>by
  refine⟨⟨pa,pc,ia,ic,fun j v hv=>hc j v ?_ (h1 j v hv),h2.keep hk (fun _ h _=>h),h3,h3',h4,h4',SlAt.keep h5 hk (fun _ h _=>h)⟩,FoAt.copy hk r b (o+11) g (p+11) h6 fun j u hj hu=> ?_⟩
  ·have:j<(h.cells pa pc ia k.len ic).size:=by
    rcases Nat.lt_or_ge j (h.cells pa pc ia k.len ic).size with h | h
    ·exact h
    ·rw[Array.getElem?_eq_none h] at hv;cases hv
   simp[Hd.cells] at this
   simp only[Fo.len]
   omega
  ·rw[Nat.add_assoc]
   exact hc (11+j) u (by simp only[Fo.len];omega) (by rw[<-Nat.add_assoc];exact hu)
def CloneDat(S:Nat->Prop)(k:Fo)(w:World)(e:Ending)(w':World):Prop:=
  ∃ ia ic, e = .returned (.slice ia k.len ic) ∧ k.len ≤ ic ∧ capOk ia ic ∧ Below w.heap.size w w' ∧
    (k.len=0\/∃g cur,ia=some ⟨g,0,none⟩/\w.heap.size<=g/\Blk w' g 53 cur/\cur.size=ic*11/\FoAt w' S g 0 k)
set_option maxRecDepth 100000 in
set_option maxHeartbeats 800000 in
theorem cloneDat_any(k:Fo)(ia:Option Addr)(ic:Nat)(w:World)(S:Nat->Prop)(hl:k.len<=1034834473200)(hp:SlAt w S ia k):
  Calls Tryz.prog 145 #[.slice ia k.len ic] w (CloneDat S k w):=by
 cases ia with
 | none=>
  have hl0:k.len=0:=by
   rcases hp with h | ⟨b,o,h,_⟩
   ·exact h
   ·cases h
  have hnil:=fun W=>Lib.run_eql_slice_nil (P:=Tryz.prog) W 23 53 none k.len ic 0 0 Tryz.underlying23
  simp only[Option.isNone] at hnil
  have HL:=Lib.hid hl0
  clear hl0
  go_enter Tryz.func145,Tryz.ntmps145
  go_wp2_with fail
  go_ret
  exact⟨none,0,by rw[HL.out];rfl,by rw[HL.out];omega,capOk.nil,Below.refl _ _,.inl HL.out⟩
 | some ad=>
  obtain⟨i0,hi,hz0,hz1,hz2⟩:=info_parts info_dat
  have hnil:=fun W=>Lib.run_eql_slice_nil (P:=Tryz.prog) W 23 53 (some ad) k.len ic 0 0 Tryz.underlying23
  simp only[Option.isNone] at hnil
  have hkeep: ∀(b:Nat),S b->b<w.heap.size->(w.alloc (.cells #[] 53)).heap[b]? =w.heap[b]? :=fun b _ h=>Below.heap_alloc _ _ _ h
  obtain⟨xs,x1,x2,x3⟩: ∃xs:List Value,xs.length=k.len*11/\(∀(j:Nat) (u:Value),xs[j]? =some u->(w.alloc (.cells #[] 53)).cell? (ad.add j)=some u)/\∀u∈xs,u.oneCell'=true:=by
   rcases hp with h | ⟨b,o,e,hS,h⟩
   ·exact⟨[],by rw[h];rfl,fun j u h=>by simp at h,fun u h=>by simp at h⟩
   ·injection e with e
    subst e
    obtain⟨xs,x1,x2,x3⟩:=FoAt.list k b o (FoAt.keep hkeep (fun _ h _=>h) k b o hS h)
    exact⟨xs,x1,fun j u hu=>by rw[add_addr];exact x2 j u hu,x3⟩
  have HP:=Lib.hid x2
  have hown:=World.ownsRow_made (base:=w.heap.size) (e:=53) (size:=11) w #[] 0 (Nat.le_refl _) (by decide) rfl
  have HOWN:=Lib.hid hown
  clear x2 hown
  go_enter Tryz.func145,Tryz.ntmps145
  go_wp2_with (at_builtin;refine wpList_append_own_at _ rfl (.tmp 5) (.tmp 6) _ rfl w.heap.size 53 i0 _ 11 136 Tryz.underlying23 hi hz0 hz1 hz2 rfl (by omega) (.slice (some ⟨w.heap.size,0,none⟩) 0 0) 0 [] rfl HOWN.out ad k.len ic xs rfl x1 HP.out x3 (by unfold maxLen;omega) (by omega) (by simp) ?_;intro v' w' hown' hgrow hiff _)
  have hb:Below w.heap.size w w':=((Below.refl _ _).alloc (Nat.le_refl _) _).grown hgrow (by simp) (by intro k hk;simp[Value.ownBlock] at hk;omega)
  have hv: ∃ia' ic',v'=.slice ia' k.len ic'/\k.len<=ic'/\capOk ia' ic'/\(k.len=0\/∃g cur,ia'=some ⟨g,0,none⟩/\w.heap.size<=g/\Blk w' g 53 cur/\cur.size=ic'*11/\FoAt w' S g 0 k):=by
   simp only[Nat.zero_add,List.nil_append] at hown'
   rcases hown'.2 with⟨rfl,h0⟩ | ⟨g,cap,cur,rfl,hg,hh,hc,hm,hs,ht⟩
   ·exact⟨none,0,by rw[h0],by omega,capOk.nil,.inl h0⟩
   ·refine⟨_,cap,rfl,hc,capOk.some (by unfold maxLen at hm;exact hm), ?_⟩
    rcases hp with h | ⟨b,o,e,hS,h⟩
    ·exact .inl h
    ·refine .inr ⟨g,cur,rfl,hg,hh,hs,FoAt.copy (fun b _ h=>hb.block b h) k b o g 0 h fun j u hj hu=> ?_⟩
     have e1:=HP.out j (xs[j]'(by omega)) (List.getElem?_eq_getElem (by omega))
     injection e with e
     rw[e,add_addr,World.cell?_alloc_lt _ _ _ (cell_lt hu),hu] at e1
     rw[Nat.zero_add,cell_of_row w' g _ cur _ _ hh]
     have h1:(cur.toList.take (k.len*11))[j]? =some (xs[j]'(by omega)):=by rw[ht];exact List.getElem?_eq_getElem (by omega)
     rw[List.getElem?_take,if_pos hj] at h1
     injection e1 with e1
     rw[<-e1] at h1
     simpa using h1
  obtain⟨ia',ic',rfl,h1,h2,h3⟩:=hv
  go_ret
  exact⟨ia',ic',rfl,h1,h2,hb,h3⟩
end Go.Proofs.YtbjegfpfmnleeaaGreatDoor

namespace Go.Proofs.YtbjegfpfmnleeaaGreatDoor
open Go.RowKit Go.Sort
theorem FoAt.of_get{w:World}{S:Nat->Prop}: ∀(f:Fo) (b o:Nat),(∀i h k,f.get i=some (h,k)->∃pa pc ia ic,CellsAt w b (o+i*11) (h.cells pa pc ia k.len ic)/\DatAt w S h k pa pc ia ic)->FoAt w S b o f
 | .nil,_,_,_=>trivial
 | .cons h k r,b,o,hg=>by
  obtain⟨pa,pc,ia,ic,h1,h2⟩:=hg 0 h k rfl
  refine⟨⟨pa,pc,ia,ic,by simpa using h1,h2.path,h2.pcLe,h2.pcMax,h2.icLe,h2.icMax,h2.kids⟩,FoAt.of_get r b (o+11) fun i h' k' e=> ?_⟩
  have:=hg (i+1) h' k' e
  rwa [show o+(i+1)*11=o+11+i*11 by omega] at this
def TwinPost(h:Hd)(k:Fo)(w:World)(e:Ending)(w':World):Prop:=
 ∃pa pc ia ic,e=.returned (.agg (h.cells pa pc ia k.len ic))/\DatAt w' (fun b=>w.heap.size<=b) h k pa pc ia ic/\Below w.heap.size w w'
def TwinC(h:Hd)(k:Fo):Prop:= ∀(w:World) (S:Nat->Prop) (pa:Option Addr) (pc:Nat) (ia:Option Addr) (ic:Nat),DatAt w S h k pa pc ia ic->
 Calls Tryz.prog 139 #[.agg (h.cells pa pc ia k.len ic)] w (TwinPost h k w)
def Half(w:World)(S:Nat->Prop)(k:Fo)(g j:Nat):Prop:=
 ∀i a b,k.get i=some (a,b)->∃pa pc ia ic,CellsAt w g (i*11) (a.cells pa pc ia b.len ic)/\DatAt w (if i<j then(fun x=>g<x) else S) a b pa pc ia ic
theorem CellsAt.to_blk{w w':World}{g o:Nat}{vs:Array Value}(h:CellsAt w g o vs)(hk:w'.heap[g]? =w.heap[g]?):CellsAt w' g o vs:=fun j v hv=>(World.cell?_of_block (w:=w) hk).trans (h j v hv)
theorem setCells_heap(b:Nat): ∀(vs:List Value) (o:Nat) (w:World) (k:Nat),k≠b->(w.setCells b o vs).heap[k]? =w.heap[k]?
 | [],_,_,_,_=>rfl
 | v::r,o,w,k,h=>by rw[World.setCells,setCells_heap b r (o+1) _ k h,Below.heap_setCell _ _ _ _ h]
theorem setCells_size(b:Nat): ∀(vs:List Value) (o:Nat) (w:World),(w.setCells b o vs).heap.size=w.heap.size
 | [],_,_=>rfl
 | v::r,o,w=>by rw[World.setCells,setCells_size b r (o+1)];simp[World.setCell]
theorem setCells_blk{b:Nat}{t:TypeId}: ∀(vs:List Value) (o:Nat) (w:World) (cur:Array Value),Blk w b t cur->∃cur',Blk (w.setCells b o vs) b t cur'/\cur'.size=cur.size
 | [],_,_,cur,h=>⟨cur,h,rfl⟩
 | v::r,o,w,cur,h=>by
  obtain⟨cur',h1,h2⟩:=setCells_blk r (o+1) _ _ (h.set_ o v)
  exact⟨cur',h1,by rw[h2];simp⟩
theorem setCells_below{B b:Nat}{a:World}(vs:List Value)(o:Nat)(w:World)(h:Below B a w)(hb:B<=b):Below B a (w.setCells b o vs):=by
 induction vs generalizing o w with
 | nil=>exact h
 | cons v r ih=>exact ih (o+1) _ (h.setCell (p:=⟨b,o,none⟩) hb v)
theorem there_blk{w:World}{b:Nat}{t:TypeId}{cur:Array Value}(h:Blk w b t cur){o n:Nat}(hn:o+n<=cur.size):w.there b o n:=fun j hj=>by
 refine⟨?_,h.frozen _⟩
 rw[h.cell,Array.getElem?_eq_getElem (by omega)]
 rfl
theorem run_store_cells{w:World}{b:Nat}{t:TypeId}{cur:Array Value}(h:Blk w b t cur)(o:Nat)(a:Hd)(pa:Option Addr)(pc:Nat)(ia:Option Addr)(il ic:Nat)(hn:o+11<=cur.size):
  (storeCells ⟨b,o,none⟩ (a.cells pa pc ia il ic).toList).run Tryz.prog w=.ok () (w.setCells b o (a.cells pa pc ia il ic).toList):=by
 have ht:=there_blk h (o:=o) (n:=11) hn
 have:=run_storeCells_cells (P:=Tryz.prog) b o (a.cells pa pc ia il ic).toList 0 w (fun j hj=>by simpa using(ht j (by simpa[Hd.cells] using hj)).1) (fun j hj=>by simpa using(ht j (by simpa[Hd.cells] using hj)).2)
  (fun v hv=>by simp[Hd.cells] at hv;rcases hv with rfl | rfl | rfl | rfl | rfl | rfl | rfl | rfl | rfl | rfl | rfl<;>rfl)
 simpa only[Nat.add_zero] using this
theorem half_step{wr w6:World}{S0:Nat->Prop}{k:Fo}{g j:Nat}{a:Hd}{b:Fo}{cu:Array Value}{t:TypeId}{qa:Option Addr}{qc:Nat}{ja:Option Addr}{jc:Nat}(gH:Half wr S0 k g j)(hS: ∀x,S0 x->x<g)(hlt:g<wr.heap.size)
  (hb6:Below wr.heap.size wr w6) (hget:k.get j=some (a,b)) (hB:Blk w6 g t cu) (hsz:j*11+11<=cu.size) (hda:DatAt w6 (fun x=>wr.heap.size<=x) a b qa qc ja jc):
  Half (w6.setCells g (j*11) (a.cells qa qc ja b.len jc).toList) S0 k g (j+1):=by
 intro i c d e
 have hlen:(a.cells qa qc ja b.len jc).toList.length=11:=by simp[Hd.cells]
 by_cases hij:i=j
 ·subst hij
  rw[hget] at e
  injection e with e
  injection e with e1 e2
  subst e1 e2
  refine⟨qa,qc,ja,jc,fun n v hv=>World.rangeAt_setCells_same w6 g (i*11) _ (there_blk hB (by rw[hlen];exact hsz)) n v (by simpa using hv), ?_⟩
  rw[if_pos (by omega)]
  exact hda.keep (fun x h1 _=>setCells_heap g _ _ _ x (by omega)) (fun x h1 _=>by omega)
 ·obtain⟨pa,pc,ia,ic,h1,h2⟩:=gH i c d e
  refine⟨pa,pc,ia,ic,fun n v hv=> ?_, ?_⟩
  ·have hn:n<11:=by
    have:n<(c.cells pa pc ia d.len ic).size:=by
     rcases Nat.lt_or_ge n (c.cells pa pc ia d.len ic).size with h | h
     ·exact h
     ·rw[Array.getElem?_eq_none h] at hv;cases hv
    simpa[Hd.cells] using this
   rw[World.cell?_setCells_out g _ (j*11) w6 ⟨g,i*11+n,none⟩ (fun _ _=>by rw[hlen];show i*11+n<j*11\/j*11+11<=i*11+n;omega)]
   exact(hb6.cell (p:=⟨g,i*11+n,none⟩) hlt).trans (h1 n v hv)
  ·by_cases hl:i<j
   ·rw[if_pos hl] at h2
    rw[if_pos (by omega)]
    exact h2.keep (fun x h1 h3=>(setCells_heap g _ _ _ x (by omega)).trans (hb6.block x h3)) (fun _ h _=>h)
   ·rw[if_neg hl] at h2
    rw[if_neg (by omega)]
    exact h2.keep (fun x h1 h3=>(setCells_heap g _ _ _ x (by have:=hS x h1;omega)).trans (hb6.block x h3)) (fun _ h _=>h)
theorem Blk.eleven{w:World}{g:Nat}{t:TypeId}{cs:Array Value}(h:Blk w g t cs)(hs:cs.size=11): ∃u0 u1 u2 u3 u4 u5 u6 u7 u8 u9 u10:Value,
  w.cell? ⟨g,0,none⟩=some u0/\w.cell? ⟨g,1,none⟩=some u1/\w.cell? ⟨g,2,none⟩=some u2/\w.cell? ⟨g,3,none⟩=some u3/\w.cell? ⟨g,4,none⟩=some u4/\w.cell? ⟨g,5,none⟩=some u5/\
  w.cell? ⟨g,6,none⟩=some u6/\w.cell? ⟨g,7,none⟩=some u7/\w.cell? ⟨g,8,none⟩=some u8/\w.cell? ⟨g,9,none⟩=some u9/\w.cell? ⟨g,10,none⟩=some u10:=by
 have e: ∀j (hj:j<11),w.cell? ⟨g,j,none⟩=some (cs[j]'(by omega)):=fun j hj=>by rw[h.cell,Array.getElem?_eq_getElem (by omega)]
 exact⟨_,_,_,_,_,_,_,_,_,_,_,e 0 (by omega),e 1 (by omega),e 2 (by omega),e 3 (by omega),e 4 (by omega),e 5 (by omega),e 6 (by omega),e 7 (by omega),e 8 (by omega),e 9 (by omega),e 10 (by omega)⟩
set_option maxRecDepth 100000 in
set_option maxHeartbeats 4000000 in
theorem twin_one(h:Hd)(k:Fo)(ho:h.ok)(_hko:k.ok)(hkl:k.len<=1034834473170)(ih: ∀i a b,k.get i=some (a,b)->TwinC a b):TwinC h k:=by
 intro w S pa pc ia ic hd
 replace hd:DatAt w (fun b=>b<w.heap.size) h k pa pc ia ic:=hd.keep (fun _ _ _=>rfl) (fun b _ h=>h)
 unfold Hd.cells
 go_enter Tryz.func139,Tryz.ntmps139
 go_upto_region 0 with fail
 go_cut [0,1,2] (fun _ t1 t2 wx=>t1=.pointer (some ⟨w.heap.size,0,none⟩)/\t2=.pointer (some ⟨w.heap.size+1,0,none⟩)/\Blk wx w.heap.size 53 (h.cells pa pc ia k.len ic)/\(∃cs,cs.size=11/\Blk wx (w.heap.size+1) 53 cs)/\Below w.heap.size w wx)
 case first=>
  go_wp2_with fail
  go_meet
  case rel=>exact⟨rfl,rfl,(Blk.new _ _ _).alloc _,⟨_,by rfl,Blk.new1 _ _ _ _⟩,bz⟩
 case rest=>
 obtain⟨rfl,rfl,hA,⟨cs,hcs,hR⟩,hbw⟩:=hcut
 obtain⟨w0,rfl⟩: ∃w0:World,w0=wc:=⟨_,rfl⟩
 have hd0:=hd.below hbw (fun b _ h=>h)
 obtain⟨c0,c1,c2,c3,c4,c5,c6,c7,c8,c9,c10⟩:=(CellsAt.of_blk hA).box
 go_wp2_with fail
 refine(cloneInt_any h.path pa pc _ _ ho.path hd0.path).mono ?_
 rintro e w1 ⟨pa',pc',rfl,hp1,hp2,hp3,hb1⟩
 have hA1:=hA.below hb1 hA.lt
 have hR1:=hR.below hb1 hR.lt
 have hlt1:=hA1.lt
 have hlt1':=hR1.lt
 have hltA:=hA.lt
 have hltR:=hR.lt
 have hs1:=hb1.size
 have hd1:=hd0.below hb1 (fun b _ h=>h)
 clear c0 c1 c2 c3 c4 c5 c6 c7 c8 c9 c10
 obtain⟨c0,c1,c2,c3,c4,c5,c6,c7,c8,c9,c10⟩:=(CellsAt.of_blk hA1).box
 have f9:=hA1.frozen 9
 go_upto_region 2 with fail
 have hA2:Blk (w1.setCell ⟨w.heap.size,9,none⟩ (.slice pa' h.path.length pc')) w.heap.size 53 (h.cells pa' pc' ia k.len ic):=hA1.set_ 9 (.slice pa' h.path.length pc')
 have hR2:=hR1.far (p:=⟨w.heap.size,9,none⟩) (by simp) (.slice pa' h.path.length pc')
 have hk2: ∀b,b≠w.heap.size->(w1.setCell ⟨w.heap.size,9,none⟩ (.slice pa' h.path.length pc')).heap[b]? =w1.heap[b]? :=fun b hb=>Below.heap_setCell _ _ _ _ hb
 have hz2:(w1.setCell ⟨w.heap.size,9,none⟩ (.slice pa' h.path.length pc')).heap.size=w1.heap.size:=by simp[World.setCell]
 have hb2:Below w.heap.size w (w1.setCell ⟨w.heap.size,9,none⟩ (.slice pa' h.path.length pc')):=(bl_trans hbw hb1).setCell (Nat.le_refl _) _
 generalize w1.setCell ⟨w.heap.size,9,none⟩ (.slice pa' h.path.length pc')=w2 at hA2 hR2 hk2 hz2 hb2 ⊢
 have hq2:PathAt w2 (fun b=>w0.heap.size<=b/\b<w2.heap.size) pa' h.path:=hp1.keep (fun b h1 _=>hk2 b (by omega)) (fun b h1 h2=>⟨h1,by omega⟩)
 have hd2:=hd.below hb2 (fun b _ h=>h)
 clear c0 c1 c2 c3 c4 c5 c6 c7 c8 c9 c10 f9 hp1 hk2 hd1 hd0 hb1 hA hR hA1 hR1 hbw
 obtain⟨c0,c1,c2,c3,c4,c5,c6,c7,c8,c9,c10⟩:=(CellsAt.of_blk hA2).box
 go_wp2_with fail
 refine(cloneDat_any k ia ic _ _ (by omega) hd2.kids).mono ?_
 rintro e w3 ⟨ia',ic',rfl,hi1,hi2,hb3,hcl⟩
 have hA3:=hA2.below hb3 hA2.lt
 have hR3:=hR2.below hb3 hR2.lt
 have hs3:=hb3.size
 have hlt3:=hA3.lt
 have hlt3':=hR3.lt
 clear c0 c1 c2 c3 c4 c5 c6 c7 c8 c9 c10
 obtain⟨c0,c1,c2,c3,c4,c5,c6,c7,c8,c9,c10⟩:=(CellsAt.of_blk hA3).box
 have f10:=hA3.frozen 10
 go_upto_region 3 with fail
 have hA4:Blk (w3.setCell ⟨w.heap.size,10,none⟩ (.slice ia' k.len ic')) w.heap.size 53 (h.cells pa' pc' ia' k.len ic'):=hA3.set_ 10 (.slice ia' k.len ic')
 have hR4:=hR3.far (p:=⟨w.heap.size,10,none⟩) (by simp) (.slice ia' k.len ic')
 have hk4: ∀b,b≠w.heap.size->(w3.setCell ⟨w.heap.size,10,none⟩ (.slice ia' k.len ic')).heap[b]? =w3.heap[b]? :=fun b hb=>Below.heap_setCell _ _ _ _ hb
 have hz4:(w3.setCell ⟨w.heap.size,10,none⟩ (.slice ia' k.len ic')).heap.size=w3.heap.size:=by simp[World.setCell]
 have hb4:Below w.heap.size w (w3.setCell ⟨w.heap.size,10,none⟩ (.slice ia' k.len ic')):=(bl_trans hb2 hb3).setCell (Nat.le_refl _) _
 generalize w3.setCell ⟨w.heap.size,10,none⟩ (.slice ia' k.len ic')=w4 at hA4 hR4 hk4 hz4 hb4 ⊢
 have hp4:PathAt w4 (fun b=>w0.heap.size<=b/\b<w2.heap.size) pa' h.path:=hq2.keep (fun b h1 h2=>(hk4 b (by omega)).trans (hb3.block b h2)) (fun b h1 _=>h1)
 have hkl2:k.len<=9223372036854775807:=by omega
 by_cases hk0:k.len=0
 ·have HK:=Lib.hid hk0
  have gA:=hA4
  have gb:=hb4
  have gR:Hid (∃cs',cs'.size=11/\Blk w4 (w.heap.size+1) 53 cs'):=⟨_,hcs,hR4⟩
  have gp:=hp4
  clear hk0 hcl hA3 hR3 hR2 hA2 hb2 hb3 f10 hd2 c0 c1 c2 c3 c4 c5 c6 c7 c8 c9 c10 hR4 hcs hA4 hb4 hp4 hz2 hz4 hk4 hlt3 hlt3' hlt1 hlt1'
  obtain⟨_,_,_,_,_,_,_,_,_,_,c10⟩:=(CellsAt.of_blk gA).box
  go_wp2_with fail
  clear c10
  go_loopg [17] 0 (fun gk i wr=>i=.int .i64 0/\wr=w4)
  case atStart=>exact⟨rfl,rfl⟩
  case round=>
   obtain⟨rfl,rfl⟩:=hrel
   have hk1:(k.len:Int)<=0:=by have:=HK.out;omega
   have hk2: ¬0<k.len:=by omega
   obtain⟨c0,c1,c2,c3,c4,c5,c6,c7,c8,c9,c10⟩:=(CellsAt.of_blk gA).box
   obtain⟨cs',gR1,gR2⟩:=gR.out
   have hfr:=fun j=>gR2.frozen j
   obtain⟨v0,v1,v2,v3,v4,v5,v6,v7,v8,v9,v10,q0,q1,q2,q3,q4,q5,q6,q7,q8,q9,q10⟩:=gR2.eleven gR1
   have hcs8:CellsAt (wr.setCells (w.heap.size+1) 0 (h.cells pa' pc' ia' k.len ic').toList) (w.heap.size+1) 0 (h.cells pa' pc' ia' k.len ic'):=fun n v hv=>World.rangeAt_setCells_same wr (w.heap.size+1) 0 _ (there_blk gR2 (by rw[gR1];simp[Hd.cells])) n v (by simpa using hv)
   have hd8:DatAt (wr.setCells (w.heap.size+1) 0 (h.cells pa' pc' ia' k.len ic').toList) (fun b=>w.heap.size<=b) h k pa' pc' ia' ic':=⟨gp.keep (fun x h1 _=>setCells_heap _ _ _ _ _ (by omega)) (fun x h1 _=>by omega),hp2,hp3,.inl HK.out,hi1,hi2⟩
   have gb8:Below w.heap.size w (wr.setCells (w.heap.size+1) 0 (h.cells pa' pc' ia' k.len ic').toList):=setCells_below _ _ _ gb (by omega)
   go_wp2_with fail
   exact bodyPost_ret (v:=.agg (h.cells pa' pc' ia' k.len ic')) (by simp[results,Tryz.results139,go_sem,q0,q1,q2,q3,q4,q5,q6,q7,q8,q9,q10,Hd.cells]) rfl ⟨pa',pc',ia',ic',rfl,hd8,gb8⟩
 ·obtain⟨g,cur,rfl,hg,hC,hcs2,hfo⟩: ∃g cur,ia'=some ⟨g,0,none⟩/\w2.heap.size<=g/\Blk w3 g 53 cur/\cur.size=ic'*11/\FoAt w3 (fun b=>b<w.heap.size) g 0 k:=by
   rcases hcl with h | h
   ·exact absurd h hk0
   ·exact h
  have hC4:Blk w4 g 53 cur:=(hk4 g (by omega)).trans hC
  have hHalf:Half w4 (fun b=>b<w.heap.size) k g 0:=fun i a b e=>by
   obtain⟨qa,qc,ja,jc,h1,h2⟩:=FoAt.get k g 0 i a b hfo e
   exact⟨qa,qc,ja,jc,by rw[<-Nat.zero_add (i*11)];exact h1.to_blk (hk4 g (by omega)),by
    rw[if_neg (by omega)]
    exact h2.keep (fun b h _=>hk4 b (by omega)) (fun _ h _=>h)⟩
  have hltg:=hC.lt
  obtain⟨w5,rfl⟩: ∃w5:World,w5=w4:=⟨_,rfl⟩
  have hq: ∃cs',cs'.size=11/\Blk w5 (w.heap.size+1) 53 cs':=⟨_,hcs,hR4⟩
  have hp5:PathAt w5 (fun b=>w.heap.size+1<b/\b<g) pa' h.path:=hp4.keep (fun _ _ _=>rfl) (fun b h _=>⟨by omega,by omega⟩)
  have hg1:w.heap.size+1<g:=by omega
  clear hcl hfo hC hk4 hz4 hp4 hq2 hA3 hR3 hR2 hA2 hb2 hb3 f10 hd2 c0 c1 c2 c3 c4 c5 c6 c7 c8 c9 c10 hs3 hlt3 hlt3' hlt1 hlt1' hltA hltR hs1 hz2 hR4 hcs
  have C4:=Lib.hid (show ∃cur,Blk w5 g 53 cur/\cur.size=ic'*11 from⟨cur,hC4,hcs2⟩)
  have HQ:=Lib.hid hq
  obtain⟨_,_,_,_,_,_,_,_,_,_,c10⟩:=(CellsAt.of_blk hA4).box
  clear hq hC4 hcs2
  go_wp2_with fail
  clear c10
  go_loopg [17] k.len (fun gk i wr=> ∃j:Nat,j<=k.len/\i=.int .i64 j/\gk=k.len-j/\Blk wr w.heap.size 53 (h.cells pa' pc' (some ⟨g,0,none⟩) k.len ic')/\Hid (∃cs',cs'.size=11/\Blk wr (w.heap.size+1) 53 cs')/\
   PathAt wr (fun b=>w.heap.size+1<b/\b<g) pa' h.path/\Hid (∃cur,Blk wr g 53 cur/\cur.size=ic'*11)/\Half wr (fun b=>b<w.heap.size) k g j/\Below w.heap.size w wr)
  case atStart=>exact⟨0,by omega,rfl,by omega,hA4,HQ,hp5,C4,hHalf,hb4⟩
  case round=>
   obtain⟨j,hj,rfl,rfl,gA,gR,gp,gC,gH,gb⟩:=hrel
   clear hA4 HQ hp5 C4 hHalf hb4
   by_cases hlt:j<k.len
   ·obtain⟨a,b,hget⟩:=Fo.get_lt k j hlt
    obtain⟨qa,qc,ja,jc,hcs,hda⟩:=gH j a b hget
    rw[if_neg (by omega)] at hda
    obtain⟨d0,d1,d2,d3,d4,d5,d6,d7,d8,d9,d10⟩:=hcs.eleven
    obtain⟨_,_,_,_,_,_,_,_,_,_,c10⟩:=(CellsAt.of_blk gA).box
    have hltN:=gA.lt
    obtain⟨cu,gC1,gC2⟩:=gC.out
    have hltG:=gC1.lt
    have gD1:Blk wr.drew g 53 cu:=gC1
    clear gC
    have HC:=Lib.hid gC2
    have hsz:j*11+11<=cu.size:=by rw[gC2];omega
    have HS:=Lib.hid hsz
    clear gC2 hsz
    have hih:=ih j a b hget wr.drew (fun b=>b<w.heap.size) qa qc ja jc (hda.keep (fun _ _ _=>rfl) (fun _ h _=>h))
    unfold Hd.cells at hih
    have HI:=Lib.hid hih
    have hj0:(0:Int)<=(j:Int):=by omega
    have hj1:(j:Int)<(k.len:Int):=by omega
    clear hih hcs hda
    go_wp2_with fail
    go_region_with
     ((first | (go_at_call 139;refine HI.out.mono ?_;rintro e w6 ⟨qa',qc',ja',jc',rfl,hda',hb6⟩;have hc6: ∀b o,b<wr.heap.size->w6.cell? ⟨b,o,none⟩=wr.cell? ⟨b,o,none⟩:=fun b o h=>hb6.cell (p:=⟨b,o,none⟩) h;have hn10:w6.cell? ⟨w.heap.size,10,none⟩=some (.slice (some ⟨g,0,none⟩) k.len ic'):=(hc6 _ _ hltN).trans c10;have hst:=run_store_cells (gD1.below hb6 hltG) (j*11) a qa' qc' ja' b.len jc' HS.out)))
    all_goals
     have hb7:Below wr.heap.size wr w6:=⟨hb6.os,hb6.tape,hb6.output,hb6.size,hb6.block⟩
     have hB6:=gD1.below hb6 hltG
     have hH:=half_step (S0:=fun b=>b<w.heap.size) gH (fun x h=>by omega) hltG hb7 hget hB6 HS.out hda'
     have gA7:Blk (w6.setCells g (j*11) (a.cells qa' qc' ja' b.len jc').toList) w.heap.size 53 (h.cells pa' pc' (some ⟨g,0,none⟩) k.len ic'):=(setCells_heap g _ _ _ _ (by omega)).trans (gA.below hb7 hltN)
     obtain⟨cs',gR1,gR2⟩:=gR.out
     have gR7:Hid (∃cs',cs'.size=11/\Blk (w6.setCells g (j*11) (a.cells qa' qc' ja' b.len jc').toList) (w.heap.size+1) 53 cs'):=⟨cs',gR1,(setCells_heap g _ _ _ _ (by omega)).trans (gR2.below hb7 gR2.lt)⟩
     have gp7:PathAt (w6.setCells g (j*11) (a.cells qa' qc' ja' b.len jc').toList) (fun b=>w.heap.size+1<b/\b<g) pa' h.path:=gp.keep (fun x h1 h2=>(setCells_heap g _ _ _ _ (by omega)).trans (hb7.block x h2)) (fun _ h _=>h)
     have gC7:Hid (∃cur,Blk (w6.setCells g (j*11) (a.cells qa' qc' ja' b.len jc').toList) g 53 cur/\cur.size=ic'*11):=by
      obtain⟨cur',h1,h2⟩:=setCells_blk (a.cells qa' qc' ja' b.len jc').toList (j*11) _ _ hB6
      exact⟨cur',h1,by rw[h2,HC.out]⟩
     have gb7:Below w.heap.size w (w6.setCells g (j*11) (a.cells qa' qc' ja' b.len jc').toList):=setCells_below _ _ _ (bl_trans gb hb7) (by omega)
     generalize w6.setCells g (j*11) (a.cells qa' qc' ja' b.len jc').toList=w7 at hH gA7 gR7 gp7 gC7 gb7 ⊢
     clear hst hc6 hb6 hb7 hB6 gR1 gR2 gH gA gR gp gb gC1 gD1 hda' d0 d1 d2 d3 d4 d5 d6 d7 d8 d9 d10 c10
     go_wp2_with fail
     go_roundg (k.len-(j+1))
     case measure=>omega
     case rel=>exact⟨j+1,by omega,by go_num,rfl,gA7,gR7,gp7,gC7,hH,gb7⟩
   ·have hjl:j=k.len:=by omega
    subst hjl
    obtain⟨c0,c1,c2,c3,c4,c5,c6,c7,c8,c9,c10⟩:=(CellsAt.of_blk gA).box
    obtain⟨cs',gR1,gR2⟩:=gR.out
    have hfr:=fun j=>gR2.frozen j
    obtain⟨v0,v1,v2,v3,v4,v5,v6,v7,v8,v9,v10,q0,q1,q2,q3,q4,q5,q6,q7,q8,q9,q10⟩:=gR2.eleven gR1
    have hcs8:CellsAt (wr.setCells (w.heap.size+1) 0 (h.cells pa' pc' (some ⟨g,0,none⟩) k.len ic').toList) (w.heap.size+1) 0 (h.cells pa' pc' (some ⟨g,0,none⟩) k.len ic'):=fun n v hv=>World.rangeAt_setCells_same wr (w.heap.size+1) 0 _ (there_blk gR2 (by rw[gR1];simp[Hd.cells])) n v (by simpa using hv)
    have hd8:DatAt (wr.setCells (w.heap.size+1) 0 (h.cells pa' pc' (some ⟨g,0,none⟩) k.len ic').toList) (fun b=>w.heap.size<=b) h k pa' pc' (some ⟨g,0,none⟩) ic':=by
     refine⟨gp.keep (fun x h1 _=>setCells_heap _ _ _ _ _ (by omega)) (fun x h1 _=>by omega),hp2,hp3,.inr ⟨g,0,rfl,by omega,FoAt.of_get k g 0 fun i c d e=> ?_⟩,hi1,hi2⟩
     obtain⟨pa2,pc2,ia2,ic2,h1,h2⟩:=gH i c d e
     rw[if_pos (Fo.get_len _ _ _ e)] at h2
     exact⟨pa2,pc2,ia2,ic2,by rw[Nat.zero_add];exact h1.to_blk (setCells_heap _ _ _ _ _ (by omega)),h2.keep (fun x h1 _=>setCells_heap _ _ _ _ _ (by have:g<x:=h1;omega)) (fun x h1 _=>by have:g<x:=h1;show w.heap.size<=x;omega)⟩
    have gb8:Below w.heap.size w (wr.setCells (w.heap.size+1) 0 (h.cells pa' pc' (some ⟨g,0,none⟩) k.len ic').toList):=setCells_below _ _ _ gb (by omega)
    go_wp2_with fail
    exact bodyPost_ret (v:=.agg (h.cells pa' pc' (some ⟨g,0,none⟩) k.len ic')) (by simp[results,Tryz.results139,go_sem,q0,q1,q2,q3,q4,q5,q6,q7,q8,q9,q10,Hd.cells]) rfl ⟨pa',pc',(some ⟨g,0,none⟩),ic',rfl,hd8,gb8⟩
theorem twin_all: ∀(f:Fo),f.ok->∀(i:Nat) (a:Hd) (b:Fo),f.get i=some (a,b)->TwinC a b
 | .nil,_,i,a,b,e=>by simp[Fo.get] at e
 | .cons h k r,o,0,a,b,e=>by
  simp only[Fo.get,Option.some.injEq,Prod.mk.injEq] at e
  obtain⟨rfl,rfl⟩:=e
  exact twin_one _ _ o.1 o.2.1 o.2.2.2 (fun i c d e=>twin_all k o.2.1 i c d e)
 | .cons h k r,o,i+1,a,b,e=>twin_all r o.2.2.1 i a b e
theorem twin_any(h:Hd)(k:Fo)(ho:h.ok)(hk:k.ok)(hl:k.len<=1034834473170):TwinC h k:=twin_one h k ho hk hl (fun i a b e=>twin_all k hk i a b e)
end Go.Proofs.YtbjegfpfmnleeaaGreatDoor

namespace Go.Proofs.YtbjegfpfmnleeaaGreatDoor
open Go.RowKit Go.Sort
set_option maxHeartbeats 400000 in
theorem wrong_any(w:World):Calls Tryz.prog 118 #[] w fun e w'=>e=.returned (.iface 156 (.pointer (some ⟨w.heap.size,0,none⟩)))/\Blk w' w.heap.size 158 #[.int .i64 1,.int .i64 0,.string emp]/\Below w.heap.size w w':=by
 go_enter Tryz.func118,Tryz.ntmps118
 go_wp2_with fail
 go_ret
 exact⟨rfl,Blk.new _ _ _,bz⟩
set_option maxHeartbeats 400000 in
theorem mixed_any(a b:Int)(w:World):Calls Tryz.prog 140 #[.int .u64 a,.int .u64 b] w fun e w'=>e=.returned (.int .u64 (IntKind.u64.wrap (bits .xor .u64 a b*1099511628211)))/\w=w':=by
 go_enter Tryz.func140,Tryz.ntmps140
 go_wp2_with fail
 go_ret
 exact⟨rfl,rfl⟩
end Go.Proofs.YtbjegfpfmnleeaaGreatDoor

namespace Go.Proofs.YtbjegfpfmnleeaaGreatDoor
open Go.RowKit Go.Sort
def mixI(a b:Int):Int:=IntKind.u64.wrap (bits .xor .u64 a b*1099511628211)
theorem mix_any(a b:Int)(w:World):Calls Tryz.prog 140 #[.int .u64 a,.int .u64 b] w fun e w'=>e=.returned (.int .u64 (mixI a b))/\w=w':=mixed_any a b w
theorem mix_below(a b:Int)(w:World):Calls Tryz.prog 140 #[.int .u64 a,.int .u64 b] w fun e w'=>e=.returned (.int .u64 (mixI a b))/\Below w.heap.size w w':=(mix_any a b w).mono fun _e _w' ⟨h1,h2⟩=>⟨h1,h2 ▸ Below.refl _ _⟩
def toU64(n:Int):Int:=IntKind.u64.wrap n
def mixL(l:List Int)(a:Int):Int:=match l with | []=>a | x::r=>mixL r (mixI a (toU64 x))
def mixB(l:List UInt8)(a:Int):Int:=match l with | []=>a | x::r=>mixB r (mixI a (x.toNat:Int))
def basis:Int:=14695981039346656037
def bytesH(h:Hd):List UInt8:=h.type.data.toList++32::h.s.data.toList
def hash1(h:Hd):Int:=mixB (bytesH h) (mixI basis (toU64 h.kind))
def hash2(h:Hd):Int:=if(!feqB h.f.toNat 0&& !nanB h.f.toNat)=true then mixI (hash1 h) h.f else hash1 h
def hash3(h:Hd):Int:=mixL h.path (mixI (mixI (hash2 h) (toU64 h.n)) (toU64 h.obj))
def hashF:Fo->Int->Int
 | .nil,a=>a
 | .cons h k r,a=>hashF r (mixI a (hashF k (hash3 h)))
def hashD(h:Hd)(k:Fo):Int:=hashF k (hash3 h)
def HashC(h:Hd)(k:Fo):Prop:= ∀(w:World) (S:Nat->Prop) (pa:Option Addr) (pc:Nat) (ia:Option Addr) (ic:Nat),DatAt w S h k pa pc ia ic->
 Calls Tryz.prog 129 #[.agg (h.cells pa pc ia k.len ic)] w fun e w'=>e=.returned (.int .u64 (hashD h k))/\Below w.heap.size w w'
theorem drop_mixB(l:List UInt8)(j:Nat)(b:UInt8)(a:Int)(h:l[j]? =some b):mixB (l.drop j) a=mixB (l.drop (j+1)) (mixI a (b.toNat:Int)):=by
 have hl:j<l.length:=(List.getElem?_eq_some_iff.1 h).1
 rw[List.drop_eq_getElem_cons hl,(List.getElem?_eq_some_iff.1 h).2];rfl
theorem drop_mixL(l:List Int)(j:Nat)(b:Int)(a:Int)(h:l[j]? =some b):mixL (l.drop j) a=mixL (l.drop (j+1)) (mixI a (toU64 b)):=by
 have hl:j<l.length:=(List.getElem?_eq_some_iff.1 h).1
 rw[List.drop_eq_getElem_cons hl,(List.getElem?_eq_some_iff.1 h).2];rfl
set_option maxRecDepth 100000 in
set_option maxHeartbeats 4000000 in
theorem hash_one(h:Hd)(k:Fo)(ho:h.ok)(_hk:k.ok)(hkl:k.len<=1034834473170)(ih: ∀i a b,k.get i=some (a,b)->HashC a b):HashC h k:=by
 intro w S pa pc ia ic hd
 unfold Hd.cells
 have hts:=ho.type
 have hss:=ho.s
 go_enter Tryz.func129,Tryz.ntmps129
 go_upto_region 0 with fail
 go_cut [0,1] (fun _ t1 wx=>t1=.pointer (some ⟨w.heap.size,0,none⟩)/\Blk wx w.heap.size 53 (h.cells pa pc ia k.len ic)/\Below w.heap.size w wx)
 case first=>
  go_wp2_with fail
  go_meet
  case rel=>exact⟨rfl,Blk.new _ _ _,bz⟩
 case rest=>
 obtain⟨rfl,hA,hbw⟩:=hcut
 obtain⟨w0,rfl⟩: ∃w0:World,w0=wc:=⟨_,rfl⟩
 obtain⟨c0,c1,c2,c3,c4,c5,c6,c7,c8,c9,c10⟩:=(CellsAt.of_blk hA).box
 go_wp2_with fail
 refine(mix_any _ _ _).mono ?_
 rintro e w1 ⟨rfl,rfl⟩
 obtain⟨C,wb,hcv,hbb,hcell⟩:=bytes_of w0 (h.type++⟨#[32]⟩++h.s) w0.heap.size rfl
 have hbl:(h.type++⟨#[32]⟩++h.s).data.toList=bytesH h:=by simp[bytesH]
 rw[hbl] at hcell
 have hbw2:Below w.heap.size w wb:=bl_trans hbw hbb
 have hAb:=hA.below hbb hA.lt
 have hdb:=hd.below hbw2 (fun b _ h=>h)
 have hbn:(bytesH h).length=h.type.size+1+h.s.size:=by simp[bytesH];omega
 have HBN:=Lib.hid hbn
 clear hbn hbl
 have hlen1:h.type.size+1+h.s.size<=9223372036854775807:=by omega
 go_upto_region 3 with fail
 clear c0 c1 c2 c3 c4 c5 c6 c7 c8 c9 c10 hcv hbb hA
 go_loopg [3,23] (h.type.size+1+h.s.size) (fun g a i wr=> ∃(j:Nat) (x:Int),j<=h.type.size+1+h.s.size/\a=.int .u64 x/\i=.int .i64 j/\g=h.type.size+1+h.s.size-j/\wb=wr/\Hid (hash1 h=mixB ((bytesH h).drop j) x))
 case atStart=>exact⟨0,_,by omega,rfl,rfl,by omega,rfl,by unfold Hid hash1 toU64 basis;simp⟩
 case round=>
 obtain⟨j,x,hj,rfl,rfl,rfl,rfl,HN⟩:=hrel
 by_cases hlt:j<h.type.size+1+h.s.size
 ·obtain⟨b,hb⟩: ∃b,(bytesH h)[j]? =some b:=⟨_,List.getElem?_eq_getElem (by rw[HBN.out];exact hlt)⟩
  have hc:=hcell j b hb
  have HX:=Lib.hid hb
  clear hcell hb
  have hx0:(0:Int)<=(b.toNat:Int):=by omega
  have hx1:(b.toNat:Int)<=255:=by have:=b.toNat_lt;omega
  go_wp2_with (go_at_call 140;refine(mix_any _ _ _).mono ?_;rintro e w1 ⟨rfl,rfl⟩)
  go_roundg (h.type.size+1+h.s.size-(j+1))
  case measure=>omega
  case rel=>exact⟨j+1,_,by omega,rfl,by go_num,rfl,rfl,by unfold Hid;rw[HN.out,drop_mixB _ _ _ _ HX.out]⟩
 have hjn:j=h.type.size+1+h.s.size:=by omega
 have hx:x=hash1 h:=by rw[HN.out,List.drop_of_length_le (by rw[HBN.out];omega)];rfl
 subst hx
 clear hcell hlt HN
 have hle2:((h.type.size:Int)+1+(h.s.size:Int))<=(j:Int):=by omega
 obtain⟨c0,c1,c2,c3,c4,c5,c6,c7,c8,c9,c10⟩:=(CellsAt.of_blk hAb).box
 have hff:=fromBits h.f
 have hfs:=feq_self h.f.toNat
 have hfe:=feq h.f.toNat h.f.toNat
 have hfn:=fne h.f.toNat 0
 rw[hfs] at hfe
 clear hfs hjn
 go_upto_region 8 with fail
 go_cut [41] (fun t wx=>t=.bool (!feqB h.f.toNat 0&& !nanB h.f.toNat)/\wb=wx)
 case first=>
  cases e1:feqB h.f.toNat 0<;>rw[e1] at hfn<;>cases e2:nanB h.f.toNat<;>rw[e2] at hfe
  all_goals go_wp2_with fail
  all_goals go_meet
  all_goals (refine⟨?_,rfl⟩;simp[e1,e2])
 case rest=>
 obtain⟨rfl,rfl⟩:=hcut
 go_upto_if 41 with fail
 go_cut [3] (fun t wx=>t=.int .u64 (hash2 h)/\wb=wx)
 case first=>
  cases e0:(!feqB h.f.toNat 0&& !nanB h.f.toNat)
  ·go_wp2_with fail
   go_meet
   case rel=>exact⟨by unfold hash2;rw[e0,if_neg (by simp)],rfl⟩
  ·go_wp2_with (go_at_call 140;refine(mix_any _ _ _).mono ?_;rintro e w1 ⟨rfl,rfl⟩)
   go_meet
   case rel=>exact⟨by unfold hash2;rw[e0,if_pos rfl],rfl⟩
 case rest=>
 obtain⟨rfl,rfl⟩:=hcut
 go_upto_region 10 with fail
 go_cut [3] (fun t wx=>t=.int .u64 (mixI (mixI (hash2 h) (toU64 h.n)) (toU64 h.obj))/\Below wb.heap.size wb wx)
 case first=>
  clear c0 c1 c2 c3 c4 c5 c6 c7 c8 c9 c10
  obtain⟨c0,c1,c2,c3,c4,c5,c6,c7,c8,c9,c10⟩:=(CellsAt.of_blk hAb).boxrg
  refine wp_region_below (by kernel_rfl) (by kernel_rfl) ?_
  repeat (quiet_step ((go_at_call 140;exact Calls.regrown_of (mix_below _ _ _))))
  refine wpQuiet_nil ?_
  intro w2 hb2
  go_wp2_with fail
  go_meet
  case rel=>exact⟨rfl,hb2⟩
 case rest=>
 obtain⟨rfl,hbq⟩:=hcut
 obtain⟨w2,rfl⟩: ∃w2:World,w2=wc:=⟨_,rfl⟩
 have hb3:Below w.heap.size w w2:=bl_trans hbw2 hbq
 have hA2:=hAb.below hbq hAb.lt
 have hd2:=hd.below hb3 (fun b _ h=>h)
 clear c0 c1 c2 c3 c4 c5 c6 c7 c8 c9 c10 hff hfe hfn hAb hdb hbw2 hbq hle2 HBN hlen1
 obtain⟨c0,c1,c2,c3,c4,c5,c6,c7,c8,c9,c10⟩:=(CellsAt.of_blk hA2).box
 have hpl:=ho.path
 go_upto_region 12 with fail
 go_loopg [3,60] h.path.length (fun g a i wr=> ∃(j:Nat) (x:Int),j<=h.path.length/\a=.int .u64 x/\i=.int .i64 j/\g=h.path.length-j/\w2=wr/\Hid (hash3 h=mixL (h.path.drop j) x))
 case atStart=>exact⟨0,_,by omega,rfl,rfl,by omega,rfl,rfl⟩
 case round=>
 obtain⟨j,x,hj,rfl,rfl,rfl,rfl,HN⟩:=hrel
 by_cases hlt:j<h.path.length
 ·obtain⟨b,hb⟩: ∃b,h.path[j]? =some b:=⟨_,List.getElem?_eq_getElem hlt⟩
  obtain⟨pb,po,rfl,_,hcc⟩:=hd2.path.get hb
  have HDr:=Lib.hid (drop_mixL h.path j b x hb)
  have hj1:(j:Int)<(h.path.length:Int):=by omega
  clear hb
  go_wp2_with (go_at_call 140;refine(mix_any _ _ _).mono ?_;rintro e w1 ⟨rfl,rfl⟩)
  go_roundg (h.path.length-(j+1))
  case measure=>omega
  case rel=>exact⟨j+1,_,by omega,rfl,by go_num,rfl,rfl,by unfold Hid;rw[HN.out,HDr.out];rfl⟩
 have hjn2:(h.path.length:Int)<=(j:Int):=by omega
 have hx:x=hash3 h:=by rw[HN.out,List.drop_of_length_le (by omega)];rfl
 subst hx
 clear HN hlt
 go_upto_region 16 with fail
 go_cut [61,69,70,71,72] (fun _ _ t70 t71 t72 wx=>t70=.slice ia k.len ic/\t71=.int .i64 k.len/\t72=.int .i64 0/\w2=wx)
 case first=>
  go_wp2_with fail
  go_meet
  case rel=>exact⟨rfl,rfl,rfl,rfl⟩
 case rest=>
 obtain⟨rfl,rfl,rfl,rfl⟩:=hcut
 go_upto_region 17 with fail
 clear hjn2 c0 c1 c2 c3 c4 c5 c6 c7 c8 c9 c10
 go_loopg [3,72] k.len (fun g a i wr=> ∃(j:Nat) (x:Int),j<=k.len/\a=.int .u64 x/\i=.int .i64 j/\g=k.len-j/\Below w.heap.size w wr/\Hid (hashD h k=hashF (k.drop j) x))
 case atStart=>exact⟨0,_,by omega,rfl,rfl,by omega,hb3,by unfold Hid hashD;simp⟩
 case round=>
 obtain⟨j,x,hj,rfl,rfl,rfl,hbr,HN⟩:=hrel
 by_cases hlt:j<k.len
 ·obtain⟨h',k',hget⟩:=Fo.get_lt k j hlt
  have hks:SlAt _ S ia k:=(hd.below hbr (fun b _ h=>h)).kids
  obtain⟨b,o,rfl,hSb,pa',pc',ia',ic',hcs,hda⟩:=hks.get hget
  obtain⟨d0,d1,d2,d3,d4,d5,d6,d7,d8,d9,d10⟩:=hcs.eleven
  have hih:=ih j h' k' hget (wr.alloc (.cells (h'.cells pa' pc' ia' k'.len ic') 53)) S pa' pc' ia' ic' (hda.keep (fun b _ h=>Below.heap_alloc _ _ _ h) (fun _ h _=>h))
  unfold Hd.cells at hih
  have HI:=Lib.hid hih
  have HDr:=Lib.hid (Fo.drop_get k j h' k' hget)
  clear hih hget hcs hda hks hpl
  go_wp2_with fail
  refine HI.out.mono ?_
  rintro e w4 ⟨rfl,hb4⟩
  have hbr4:Below w.heap.size w w4:=bl_trans (bl_alloc hbr _) hb4
  clear HI d0 d1 d2 d3 d4 d5 d6 d7 d8 d9 d10 hb4
  go_wp2_with (go_at_call 140;refine(mix_any _ _ _).mono ?_;rintro e w1 ⟨rfl,rfl⟩)
  go_roundg (k.len-(j+1))
  case measure=>omega
  case rel=>exact⟨j+1,_,by omega,rfl,by go_num,rfl,hbr4,by unfold Hid;rw[HN.out,HDr.out];rfl⟩
 have hjk:j=k.len:=by omega
 subst hjk
 have hx:hashD h k=x:=by rw[HN.out,Fo.drop_len k _ (Nat.le_refl _)];rfl
 clear HN hlt
 go_wp2_with fail
 go_ret
 rw[hx]
 exact⟨rfl,hbr⟩
theorem hash_all: ∀(f:Fo),f.ok->∀i h k,f.get i=some (h,k)->HashC h k
 | .nil,_,i,h,k,e=>by simp[Fo.get] at e
 | .cons h' k' r,o,0,h,k,e=>by
  simp only[Fo.get,Option.some.injEq,Prod.mk.injEq] at e
  obtain⟨rfl,rfl⟩:=e
  exact hash_one _ _ o.1 o.2.1 o.2.2.2 (hash_all k' o.2.1)
 | .cons h' k' r,o,i+1,h,k,e=>hash_all r o.2.2.1 i h k e
theorem hash_any(h:Hd)(k:Fo)(ho:h.ok)(hk:k.ok)(hl:k.len<=1034834473170):HashC h k:=hash_one h k ho hk hl (hash_all k hk)
end Go.Proofs.YtbjegfpfmnleeaaGreatDoor

namespace Go.Proofs.YtbjegfpfmnleeaaGreatDoor
open Go.RowKit Go.Sort
section
variable (h:Hd) (k:Fo) (ho:h.ok) (hk:k.ok) (hl:k.len<=1034834473170) (w:World) (S:Nat->Prop) (pa:Option Addr) (pc:Nat) (ia:Option Addr) (ic:Nat) (hd:DatAt w S h k pa pc ia ic)
include ho
include hk hl hd
theorem truthHash_any:Calls Tryz.prog 181 #[.agg (h.cells pa pc ia k.len ic)] w fun e w'=>e=.returned (.int .u64 (hashD h k))/\Below w.heap.size w w':=by
 have he:=hash_any h k ho hk hl (w.alloc (.cells (h.cells pa pc ia k.len ic) 230)) S pa pc ia ic (hd.keep (fun b _ h=>Below.heap_alloc _ _ _ h) (fun _ h _=>h))
 unfold Hd.cells at he ⊢
 have HE:=Lib.hid he
 clear he
 go_enter Tryz.func181,Tryz.ntmps181
 go_wp2_with fail
 refine HE.out.mono ?_
 rintro e w1 ⟨rfl,hb1⟩
 go_wp2_with fail
 go_ret
 exact⟨rfl,bz⟩
theorem figureHash_any:Calls Tryz.prog 182 #[.agg (h.cells pa pc ia k.len ic)] w fun e w'=>e=.returned (.int .u64 (hashD h k))/\Below w.heap.size w w':=by
 have he:=hash_any h k ho hk hl (w.alloc (.cells (h.cells pa pc ia k.len ic) 231)) S pa pc ia ic (hd.keep (fun b _ h=>Below.heap_alloc _ _ _ h) (fun _ h _=>h))
 unfold Hd.cells at he ⊢
 have HE:=Lib.hid he
 clear he
 go_enter Tryz.func182,Tryz.ntmps182
 go_wp2_with fail
 refine HE.out.mono ?_
 rintro e w1 ⟨rfl,hb1⟩
 go_wp2_with fail
 go_ret
 exact⟨rfl,bz⟩
theorem letterHash_any:Calls Tryz.prog 183 #[.agg (h.cells pa pc ia k.len ic)] w fun e w'=>e=.returned (.int .u64 (hashD h k))/\Below w.heap.size w w':=by
 have he:=hash_any h k ho hk hl (w.alloc (.cells (h.cells pa pc ia k.len ic) 232)) S pa pc ia ic (hd.keep (fun b _ h=>Below.heap_alloc _ _ _ h) (fun _ h _=>h))
 unfold Hd.cells at he ⊢
 have HE:=Lib.hid he
 clear he
 go_enter Tryz.func183,Tryz.ntmps183
 go_wp2_with fail
 refine HE.out.mono ?_
 rintro e w1 ⟨rfl,hb1⟩
 go_wp2_with fail
 go_ret
 exact⟨rfl,bz⟩
theorem arrowHash_any:Calls Tryz.prog 186 #[.agg (h.cells pa pc ia k.len ic)] w fun e w'=>e=.returned (.int .u64 (hashD h k))/\Below w.heap.size w w':=by
 have he:=hash_any h k ho hk hl (w.alloc (.cells (h.cells pa pc ia k.len ic) 235)) S pa pc ia ic (hd.keep (fun b _ h=>Below.heap_alloc _ _ _ h) (fun _ h _=>h))
 unfold Hd.cells at he ⊢
 have HE:=Lib.hid he
 clear he
 go_enter Tryz.func186,Tryz.ntmps186
 go_wp2_with fail
 refine HE.out.mono ?_
 rintro e w1 ⟨rfl,hb1⟩
 go_wp2_with fail
 go_ret
 exact⟨rfl,bz⟩
theorem filedHash_any:Calls Tryz.prog 187 #[.agg (h.cells pa pc ia k.len ic)] w fun e w'=>e=.returned (.int .u64 (hashD h k))/\Below w.heap.size w w':=by
 have he:=hash_any h k ho hk hl (w.alloc (.cells (h.cells pa pc ia k.len ic) 238)) S pa pc ia ic (hd.keep (fun b _ h=>Below.heap_alloc _ _ _ h) (fun _ h _=>h))
 unfold Hd.cells at he ⊢
 have HE:=Lib.hid he
 clear he
 go_enter Tryz.func187,Tryz.ntmps187
 go_wp2_with fail
 refine HE.out.mono ?_
 rintro e w1 ⟨rfl,hb1⟩
 go_wp2_with fail
 go_ret
 exact⟨rfl,bz⟩
end
section
variable (h:Hd) (k:Nat) (w:World) (pa:Option Addr) (pc:Nat) (ia:Option Addr) (ic:Nat)
end
end Go.Proofs.YtbjegfpfmnleeaaGreatDoor

namespace Go.Proofs.YtbjegfpfmnleeaaGreatDoor
open Go.RowKit Go.Sort
theorem DatAt.rg{w:World}{S:Nat->Prop}{h:Hd}{k:Fo}{pa:Option Addr}{pc:Nat}{ia:Option Addr}{ic:Nat}(d:DatAt w S h k pa pc ia ic)(n:Nat)(os:Array Obj):DatAt (grow (redrawn w n) os) S h k pa pc ia ic:=
 d.below (below_regrown w n os) (fun _ _ h=>h)
theorem OwnAt.rg{w:World}(h:OwnAt w)(n:Nat)(os:Array Obj):OwnAt (grow (redrawn w n) os):=h.below (below_regrown w n os) (Nat.le_refl _)
end Go.Proofs.YtbjegfpfmnleeaaGreatDoor
