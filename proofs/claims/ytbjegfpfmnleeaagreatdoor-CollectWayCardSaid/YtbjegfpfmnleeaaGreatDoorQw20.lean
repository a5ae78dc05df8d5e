/-
   Written by an AI agent.
-/
import Derived.Test.YtbjegfpfmnleeaaGreatDoorQw13
import Derived.Test.YtbjegfpfmnleeaaGreatDoorQw18
import Derived.Test.YtbjegfpfmnleeaaGreatDoorQw19
import Derived.Test.YtbjegfpfmnleeaaGreatDoorQw06
import Derived.Test.YtbjegfpfmnleeaaGreatDoorProg
import Derived.Test.YtbjegfpfmnleeaaGreatDoorQw04
import Derived.Test.YtbjegfpfmnleeaaGreatDoorQw14
namespace Go.Proofs.YtbjegfpfmnleeaaGreatDoor
open Go.RowKit
set_option maxRecDepth 100000
def svE(g:Nat)(v:Dt)(e:En):En:=if e.g=g then⟨e.g,e.key,v,e.hash,e.own⟩ else e
theorem svE_g(g:Nat)(v:Dt)(e:En):(svE g v e).g=e.g:=by unfold svE;split<;>rfl
theorem svE_key(g:Nat)(v:Dt)(e:En):(svE g v e).key=e.key:=by unfold svE;split<;>rfl
theorem svE_hash(g:Nat)(v:Dt)(e:En):(svE g v e).hash=e.hash:=by unfold svE;split<;>rfl
theorem svE_own(g:Nat)(v:Dt)(e:En):(svE g v e).own=e.own:=by unfold svE;split<;>rfl
theorem svE_gs(g:Nat)(v:Dt)(R:List En):(R.map (svE g v)).map (·.g)=R.map (·.g):=by
 rw[List.map_map]
 exact List.map_congr_left fun e _=>svE_g g v e
theorem pO_map{f:En->En}(hf: ∀e,(f e).g=e.g)(o:Option En):pO (o.map f)=pO o:=by
 cases o with
 | none=>rfl
 | some e=>simp[pO,En.p,hf]
theorem pO_find{f:En->En}(hf: ∀e,(f e).g=e.g){p:En->Bool}(hp: ∀e,p (f e)=p e)(R:List En):pO ((R.map f).find? p)=pO (R.find? p):=by
 rw[List.find?_map,show p∘f=p from funext hp]
 exact pO_map hf _
theorem pO_head{f:En->En}(hf: ∀e,(f e).g=e.g)(R:List En):pO (R.map f).head? =pO R.head? :=by rw[List.head?_map];exact pO_map hf _
theorem pO_last{f:En->En}(hf: ∀e,(f e).g=e.g)(R:List En):pO (R.map f).getLast? =pO R.getLast? :=by rw[List.getLast?_map];exact pO_map hf _
theorem Links.sv{n:Nat}{R:List En}{N B A:Nat->Option Addr}(h:Links n R N B A)(g:Nat)(v:Dt):Links n (R.map (svE g v)) N B A:=by
 intro X e Z hX
 obtain⟨X1,Y1,rfl,rfl,hY⟩:=List.map_eq_append_iff.1 hX
 obtain⟨e1,Z1,rfl,rfl,rfl⟩:=List.map_eq_cons_iff.1 hY
 obtain⟨h1,h2,h3⟩:=h X1 e1 Z1 rfl
 rw[svE_g,svE_hash,pO_find (svE_g g v) (fun e=>by unfold bkB;rw[svE_hash]),pO_head (svE_g g v),pO_last (svE_g g v)]
 exact⟨h1,h2,h3⟩
theorem HeadsOk.sv{n:Nat}{R:List En}{H:Nat->Option Addr}(h:HeadsOk n R H)(g:Nat)(v:Dt):HeadsOk n (R.map (svE g v)) H:=fun i hi=>by
 rw[pO_find (svE_g g v) (fun e=>by rw[svE_hash])]
 exact h i hi
theorem KeysOk.sv{R:List En}(h:KeysOk R)(g:Nat)(v:Dt):KeysOk (R.map (svE g v)):=
  ⟨fun e he => by
    obtain⟨x,hx,rfl⟩:=List.mem_map.1 he
    rw[svE_key];exact h.right x hx,
   fun e he=>by
    obtain⟨x,hx,rfl⟩:=List.mem_map.1 he
    rw[svE_hash,svE_own,svE_key];exact h.num x hx⟩
section
variable {w w':World} {m hb n:Nat} {fr tx:Option Addr} {many:Int} {H N B A:Nat->Option Addr} {R:List En} {D:Nat->Prop}
theorem Raw.setVal(h:Raw w m hb n fr tx many H N B A R D){x:En}(hx:x∈R){v:Dt}{mv:Dm}(hv:v.at w D mv)(hvo:v.ok):Raw (w.setCells x.g 11 (v.cs mv).toList) m hb n fr tx many H N B A (R.map (svE x.g v)) D where
 map:=let⟨cs,h1,h2⟩:=h.map;⟨cs,Blk.farL (Ne.symm (h.far x hx).1) _ _ _ h1,h2⟩
 heads:=let⟨t,hs,h1,h2⟩:=h.heads;⟨t,hs,Blk.farL (Ne.symm (h.far x hx).2) _ _ _ h1,h2⟩
 ent:=fun e he=>by
  obtain⟨y,hy,rfl⟩:=List.mem_map.1 he
  obtain⟨mk,m0,h1,h2,h3⟩:=h.ent y hy
  rw[svE_g,svE_key]
  unfold svE
  by_cases q:y.g=x.g
  ·obtain rfl:=nd_eq h.nd hy hx q
   rw[if_pos rfl]
   refine⟨mk,mv, ?_,dat_far _ 11 h2 (h.out.2.2 y hx),dat_far _ 11 hv (h.out.2.2 y hx)⟩
   have e:((v.cs mv).toList.foldl (fun(p:Array Value×Nat) v=>(p.1.setIfInBounds p.2 v,p.2+1)) (y.cs mk m0 (N y.g) (B y.g) (A y.g),11)).1=En.cs ⟨y.g,y.key,v,y.hash,y.own⟩ mk mv (N y.g) (B y.g) (A y.g):=by kernel_rfl
   have h4:=Blk.setL (v.cs mv).toList 11 _ _ h1
   rw[e] at h4
   exact h4
  ·rw[if_neg q]
   exact⟨mk,m0,Blk.farL q _ _ _ h1,dat_far _ 11 h2 (h.out.2.2 x hx),dat_far _ 11 h3 (h.out.2.2 x hx)⟩
 nd:=by rw[svE_gs];exact h.nd
 far:=fun e he=>by
  obtain⟨y,hy,rfl⟩:=List.mem_map.1 he
  rw[svE_g];exact h.far y hy
 out:=⟨h.out.1,h.out.2.1,fun e he=>by
  obtain⟨y,hy,rfl⟩:=List.mem_map.1 he
  rw[svE_g];exact h.out.2.2 y hy⟩
 ok:=fun e he=>by
  obtain⟨y,hy,rfl⟩:=List.mem_map.1 he
  rw[svE_key,svE_hash]
  obtain⟨h1,h2,h3⟩:=h.ok y hy
  refine⟨h1, ?_,h3⟩
  unfold svE
  split
  ·exact hvo
  ·exact h2
 dlt:=fun b hd=>by rw[setCells_size'];exact h.dlt b hd
end
theorem NOk.other{n:Nat}{R:List En}{N:Nat->Option Addr}(h:NOk n R N){g:Nat}(hg: ∀x∈R,x.g≠g)(p:Option Addr):NOk n R (upd N g p):=fun X e Z hX=>by
 rw[upd_ne (hg e (by rw[hX];simp))]
 exact h X e Z hX
theorem Links.nok{n:Nat}{R:List En}{N B A:Nat->Option Addr}(h:Links n R N B A):NOk n R N:=fun X e Z hX=>(h X e Z hX).1
def upH(R:List En)(A:Nat->Option Addr)(p:Addr):Nat->Option Addr:=match R with
 | []=>A
 | r::_=>upd A r.g (some p)
theorem Links.push{n:Nat}{R:List En}{N0 B0 A0 N' B A:Nat->Option Addr}{e:En}(h:Links n R N0 B0 A0)(hnd:((e::R).map (·.g)).Nodup)(hN:NOk n (e::R) N')(hB:B=upd B0 e.g (pO R.head?))(hA:A=upH R (upd A0 e.g none) e.p):Links n (e::R) N' B A:=by
 subst hB hA
 have hnd':=hnd
 rw[List.map_cons,List.nodup_cons] at hnd
 have hne: ∀x∈R,x.g≠e.g:=fun x hx q=>hnd.1 (List.mem_map.2 ⟨x,hx,q⟩)
 intro X x Z hX
 refine⟨hN X x Z hX, ?_⟩
 cases X with
 | nil=>
  injection hX with h1 h2
  subst h1 h2
  refine⟨upd_same _ _ _, ?_⟩
  unfold upH
  cases R with
  | nil=>exact upd_same _ _ _
  | cons r R=>
   show Go.Proofs.YtbjegfpfmnleeaaGreatDoor.upd _ r.g _ e.g=_
   rw[upd_ne (Ne.symm (hne r (by simp)))]
   exact upd_same _ _ _
 | cons y X=>
  injection hX with h1 h2
  subst h1
  have hx:x∈R:=by rw[h2];simp
  obtain⟨_,q2,q3⟩:=h X x Z h2
  refine⟨(upd_ne (hne x hx)).trans q2, ?_⟩
  cases R with
  | nil=>cases hx
  | cons r R=>
   show Go.Proofs.YtbjegfpfmnleeaaGreatDoor.upd _ r.g _ x.g=_
   cases X with
   | nil=>
    injection h2 with h3 _
    subst h3
    exact upd_same _ _ _
   | cons y X=>
    injection h2 with h3 h4
    subst h3
    have hxr:x.g≠r.g:=by
     rw[List.map_cons,List.nodup_cons] at hnd
     exact fun q=>hnd.2.1 (List.mem_map.2 ⟨x,by rw[h4];exact List.mem_append_right _ List.mem_cons_self,q⟩)
    rw[upd_ne hxr,upd_ne (hne x hx),q3]
    show _=pO (e::r::X).getLast?
    rw[List.getLast?_cons_cons]
theorem KeysOk.push{R:List En}(h:KeysOk R){e:En}(hr:rB e.key=true)(hk:kB e.key=true)(hh:e.hash=hV e.key)(ho:e.own=eqO e.key e.key):KeysOk (e::R):=
  ⟨fun x hx => by
    rcases List.mem_cons.1 hx with rfl | hx
    · exact⟨hr,hk⟩
    · exact h.right x hx,
   fun x hx=>by
    rcases List.mem_cons.1 hx with rfl | hx
    · exact⟨hh,ho⟩
    · exact h.num x hx⟩
def Grew(w:World)(D D':Nat->Prop):Prop:=(∀b,D b->D' b)/\∀b,D' b->D b\/w.heap.size<=b
theorem Grew.refl(w:World)(D:Nat->Prop):Grew w D D:=⟨fun _ h=>h,fun _ h=>.inl h⟩
def PutOk(w w':World)(m:Nat)(R':List En)(D O:Nat->Prop):Prop:= ∃D' O',MapAt w' m R' D' O'/\Moved O w w'/\Grew w D D'/\Grew w O O'
def PutNew(R:List En)(k v:Dt)(R':List En):Prop:=match fE R k with
 | some x=>R'=R.map (svE x.g v)
 | none=> ∃g,R'=⟨g,k,v,hV k,eqO k k⟩::R
def PutR(m:Nat)(R:List En)(D O:Nat->Prop)(k v:Dt)(w:World)(e:Ending)(w':World):Prop:=
 if(rB k&&rB v)=false then Below w.heap.size w w'/\∃x,e=.returned x/\WrongAt w w' x
 else if kB k=false then Below w.heap.size w w'/\∃x,e=.returned x/\FaultAt w w' x keyW (heldS k.h k.k)
 else e=.returned .nilIface/\∃R',PutNew R k v R'/\PutOk w w' m R' D O
theorem OwnAt.moved{w w':World}{O:Nat->Prop}(h:OwnAt w)(hM:Moved O w w')(h0: ¬O 0)(hz:0<w.heap.size):OwnAt w':=fun j s hj=>by
 have:=h j s hj
 unfold World.cell? at this ⊢
 rw[hM.block 0 hz h0]
 exact this
theorem Blk.moved{w w':World}{O:Nat->Prop}{g:Nat}{t:TypeId}{cs:Array Value}(h:Blk w g t cs)(hM:Moved O w w')(h0: ¬O g):Blk w' g t cs:=(hM.block g h.lt h0).trans h
theorem Dt.at.moved{w w':World}{O S:Nat->Prop}{d:Dt}{m:Dm}(h:d.at w S m)(hM:Moved O w w')(h0: ∀b,S b->b<w.heap.size->¬O b):d.at w' S m:=h.keep (fun b hb hl=>hM.block b hl (h0 b hb hl)) (fun _ h _=>h)
end Go.Proofs.YtbjegfpfmnleeaaGreatDoor

namespace Go.Proofs.YtbjegfpfmnleeaaGreatDoor
open Go.RowKit Go.Maps
structure HpB (w:World) (gh bm n last:Nat) (M:IM):Prop where
 gh:Blk w gh 83 #[.map (some bm),.int .i64 (last:Int)]
 bm:MapI w bm n M
theorem HpB.ne{w:World}{gh bm n last:Nat}{M:IM}(h:HpB w gh bm n last M):gh≠bm:=fun e=>by
 subst e
 obtain⟨es,clock,hb,_⟩:=h.bm
 have h1:=h.gh
 unfold Blk at h1
 rw[hb] at h1
 cases h1
theorem MapI.lt{w:World}{b n:Nat}{M:IM}(h:MapI w b n M):b<w.heap.size:=World.ownsMap.lt h
theorem HpB.keep{w w':World}{gh bm n last:Nat}{M:IM}(h:HpB w gh bm n last M)(h1:w'.heap[gh]? =w.heap[gh]?)(h2:w'.heap[bm]? =w.heap[bm]?):HpB w' gh bm n last M:=
 ⟨h1.trans h.gh,h.bm.keep h2⟩
theorem HpB.below{w w':World}{gh bm n last B:Nat}{M:IM}(h:HpB w gh bm n last M)(hb:Below B w w')(h1:gh<B)(h2:bm<B):HpB w' gh bm n last M:=h.keep (hb.block _ h1) (hb.block _ h2)
theorem HpB.lm{w:World}{gh bm n last:Nat}{M:IM}(h:HpB w gh bm n last M):Lds Tryz.prog 79 (.pointer (some ⟨gh,0,none⟩)) (.map (some bm)) w:=one_load h.gh Tryz.underlying79 rfl rfl
theorem HpB.ll{w:World}{gh bm n last:Nat}{M:IM}(h:HpB w gh bm n last M):Lds Tryz.prog 3 (.pointer (some ⟨gh,1,none⟩)) (.int .i64 (last:Int)) w:=one_load h.gh Tryz.underlying3 rfl rfl
theorem hnew_any(w:World):Calls Tryz.prog 25 #[] w fun e w'=>e=.returned (.pointer (some ⟨w.heap.size+1,0,none⟩))/\HpB w' (w.heap.size+1) w.heap.size 0 0 []/\Below w.heap.size w w'/\w'.heap.size=w.heap.size+2:=by
 refine calls_ev (vs:=[]) 4 Tryz.func25 hn_body (by kernel_rfl) (by simp) fun a0 h0=> ?_
 unfold hnBody
 refine wp_seq (rg_wp (hn_r0 h0 fun a1 h1=> ?_))
 refine wp_seq (rg_wp (hn_r1 h1 fun a2 h2=>wp_ret ?_))
 refine ret1 rfl h2 rfl ⟨by simp,⟨Blk.new1 _ _ _ _,(MapI.made w).keep (Below.heap_alloc _ _ _ (by simp))⟩,bl_alloc (bl_alloc (Below.refl _ _) _) _,by simp⟩
theorem hthings_any{w:World}{gh bm n last:Nat}{M:IM}(h:HpB w gh bm n last M)(hn:M.length<=1000):Calls Tryz.prog 19 #[.pointer (some ⟨gh,0,none⟩)] w fun e w'=> ∃(v:Value) (ss:List Int),e=.returned v/\ss.Perm (M.map (·.1))/\
  w'.ownsRow w.heap.size 3 1 v ss.length ((ss.mergeSort (fun x y=>decide (x<=y))).map encZ)/\(v=.slice none 0 0↔ss=[])/\Below w.heap.size w w':=by
 refine calls_ev (vs:=[.pointer (some ⟨gh,0,none⟩)]) 9 Tryz.func19 ht_body (by kernel_rfl) (by simp) fun a0 h0=> ?_
 unfold htBody
 refine wp_seq (rg_wp (ht_r0 h0 fun a1 h1=> ?_))
 refine wp_seq (rg_wp (ht_r1 (C0:=fun x w1=>x=.func (.func 56) #[] #[.pointer (some ⟨w.heap.size,0,none⟩)]/\w1=w.alloc (.cells #[.map (some bm)] 79))
  (C1:=fun x w2=>SortedK (mD M) (w.alloc (.cells #[.map (some bm)] 79)) (.returned x) w2) h1 rfl h.lm
  ((keysT_any (some bm) w).mono fun e w' ⟨h1,h2⟩=>⟨_,h1,rfl,h2⟩) ?_ fun a2 x7 w1 x8 w2 hc0 hc1 h2=>wp_ret ?_))
 ·rintro x7 w1 ⟨rfl,rfl⟩
  refine(sortedT_any bm n w.heap.size (mD M) heldR _ (h.bm.keep (Below.heap_alloc _ _ _ h.bm.lt)) (by rw[(Blk.new w _ _).cell];rfl) (by simp) ?_ ?_).mono fun e w' hh=> ?_
  ·rw[mD_size];unfold maxLen;omega
  ·rw[mD_size];omega
  ·obtain⟨v,ss,rfl,r⟩:=hh
   exact⟨v,rfl,v,ss,rfl,r⟩
 ·obtain⟨v,ss,hv,hp,ho,hnil,hb⟩:=hc1
  injection hv with hv
  subst hv
  rw[mD_keys] at hp
  refine ret1 rfl h2 rfl ⟨x8,ss,rfl,hp,ownsRow_base_a ho (by simp),hnil,(bl_alloc (Below.refl _ w) _).trans (hb.mono (by simp))⟩
theorem Moved.of_turned{S:Nat->Prop}{w w':World}{b:Nat}(h:w.mapTurned w' b)(hb:S b):Moved S w w':=by
 have g:=h.grown
 exact⟨g.size,g.os,g.tape,g.output,fun x hx hn=>g.block x hx (fun e=>hn (by cases e;exact hb))⟩
theorem hfree_any{w:World}{gh bm n last:Nat}{M:IM}(h:HpB w gh bm n last M){k:Int}(hk: -9223372036854775808<=k/\k<=9223372036854775807):Calls Tryz.prog 36 #[.pointer (some ⟨gh,0,none⟩),.int .i64 k] w fun e w'=>e=.returned (.bool (imGet k M).isSome)/\HpB w' gh bm n last (imDel k M)/\Moved (fun b=>b=bm) w w':=by
 refine calls_ev (vs:=[.pointer (some ⟨gh,0,none⟩),.int .i64 k]) 22 Tryz.func36 hf_body (by kernel_rfl) (by simp) fun a0 h0=> ?_
 unfold hfBody
 refine wp_seq (rg_wp (hf_r0 h0 fun a1 h1=> ?_))
 refine wp_seq (rg_wp (hf_r1 h1 rfl rfl h.lm (h.bm.look2 (z:=.nilIface) Tryz.underlying79 (fun _=>Tryz.zeroValue81 _) hk) fun a2 h2=> ?_))
 obtain⟨w1,hr,hm,ht⟩:=h.bm.drop Tryz.underlying79 hk 0
 refine wp_seq (rg_wp (hf_r2 h2 rfl rfl h.lm (fun ty=>⟨_,hr⟩) fun a3 h3=> ?_))
 refine wp_seq (rg_wp (hf_r3 h3 rfl fun a4 h4=>wp_ret ?_))
 exact ret1 rfl h4 rfl ⟨rfl,⟨(ht.grown.block _ h.gh.lt (fun e=>h.ne (by cases e;rfl))).trans h.gh,hm⟩,Moved.of_turned ht rfl⟩
theorem hmade_any{w:World}{gh bm n last:Nat}{M:IM}(h:HpB w gh bm n last M)(hn:n<maxLen)(hl:last<2147483647)(x:Value):Calls Tryz.prog 92 #[.pointer (some ⟨gh,0,none⟩),x] w fun e w'=>e=.returned (.tuple #[.int .i64 ((last+1:Nat):Int),.nilIface])/\HpB w' gh bm (n+1) (last+1) (imPut ((last+1:Nat):Int) x M)/\Moved (fun b=>b=gh\/b=bm) w w':=by
 refine calls_ev (vs:=[.pointer (some ⟨gh,0,none⟩),x]) 32 Tryz.func92 hm_body (by kernel_rfl) (by simp) fun a0 h0=> ?_
 unfold hmBody
 refine wp_seq (rg_wp (hm_r0 h0 fun a1 h1=> ?_))
 refine wp_seq (wp_seq (rg_wp (hm_r1 (b10:=false) h1 rfl h.ll (decide_eq_false (by omega)) fun a2 h2=>wpc_off (h2.look 10 rfl) ?_)))
 refine wp_seq (rg_wp (hm_r3 h2 rfl h.ll (by omega) (one_store h.gh (by kernel_rfl) (by simp) rfl) fun a3 h3=> ?_))
 have hG:=h.gh.set_ 1 (.int .i64 ((last:Int)+1))
 change Blk (w.setCells gh 1 [.int .i64 ((last:Int)+1)]) _ _ _ at hG
 have hb1:(w.setCells gh 1 [.int .i64 ((last:Int)+1)]).heap[bm]? =w.heap[bm]? :=Below.heap_setCell w ⟨gh,1,none⟩ _ bm (fun e=>h.ne e.symm)
 have hM1:Moved (fun b=>b=gh\/b=bm) w (w.setCells gh 1 [.int .i64 ((last:Int)+1)]):=⟨by simp[World.setCells,World.setCell],rfl,rfl,rfl,fun b _ hb=>Below.heap_setCell w ⟨gh,1,none⟩ _ b (fun e=>hb (.inl e))⟩
 have e1:((last:Int)+1)=((last+1:Nat):Int):=by simp
 rw[e1] at hG hb1 hM1 ⊢
 generalize w.setCells gh 1 [.int .i64 ((last+1:Nat):Int)]=w1 at hG hb1 hM1 ⊢
 have H1:HpB w1 gh bm n (last+1) M:=⟨hG,h.bm.keep hb1⟩
 obtain⟨w2,hr,hm,ht⟩:=MapI.store (w:=w1.drewN 1) (k:=((last+1:Nat):Int)) H1.bm Tryz.underlying79 hn (by omega) x
 refine wp_seq (rg_wp (hm_r4 h3 rfl rfl H1.lm H1.ll hr fun a4 h4=> ?_))
 have H2:HpB w2 gh bm (n+1) (last+1) (imPut ((last+1:Nat):Int) x M):=⟨(ht.grown.block _ hG.lt (fun e=>h.ne (by cases e;rfl))).trans hG,hm⟩
 refine wp_seq (rg_wp (hm_r5 h4 rfl H2.ll fun a5 h5=>wp_ret ?_))
 have hM2:Moved (fun b=>b=gh\/b=bm) w1 w2:=by
  have g:=ht.grown
  exact⟨g.size,g.os,g.tape,g.output,fun y hy hn=>g.block y hy (fun e=>hn (Or.inr (by cases e;rfl)))⟩
 exact ret2 rfl h5 rfl rfl ⟨rfl,H2,hM1.trans ⟨hM2.size,hM2.os,hM2.tape,hM2.output,fun b hb hn=>hM2.block b hb (fun e=>hn (.inl e))⟩⟩
end Go.Proofs.YtbjegfpfmnleeaaGreatDoor

namespace Go.Proofs.YtbjegfpfmnleeaaGreatDoor
open Go.RowKit Go.Sort
set_option maxRecDepth 100000
variable {a:Act} {w:World} {df:List Deferred} {N:Act->World->Prop} {Q:Exit->Act->World->Prop} {l:List (Nat×Value)}
end Go.Proofs.YtbjegfpfmnleeaaGreatDoor

namespace Go.Proofs.YtbjegfpfmnleeaaGreatDoor
open Go.RowKit
set_option maxRecDepth 100000
def cs22(k v:Dt)(mk mv:Dm):Array Value:=⟨[.int .i64 k.h.kind,.string k.h.type,.int .i64 k.h.n,.int .u64 k.h.f,.string k.h.s,.int .i64 k.h.obj,.int .i64 k.h.frm,.int .i64 k.h.len,.int .i64 k.h.cap,.slice mk.pa k.h.path.length mk.pc,.slice mk.ia k.k.len mk.ic,
 .int .i64 v.h.kind,.string v.h.type,.int .i64 v.h.n,.int .u64 v.h.f,.string v.h.s,.int .i64 v.h.obj,.int .i64 v.h.frm,.int .i64 v.h.len,.int .i64 v.h.cap,.slice mv.pa v.h.path.length mv.pc,.slice mv.ia v.k.len mv.ic]⟩
theorem kright_two{d v:Dt}(ho:d.ok)(hvo:v.ok){m mv:Dm}{S T:Nat->Prop}{w:World}(hd:d.at w S m)(hv:v.at w T mv)(hown:OwnAt w):
  Calls Tryz.prog 95 #[.slice (some ⟨w.heap.size,0,none⟩) 2 2] (w.alloc (.cells (cs22 d v m mv) 53)) fun e w'=> ∃x,e=.returned x/\((if(rB d&&rB v)=true then x=.nilIface else WrongAt w w' x)/\Below w.heap.size w w'):=by
 have hb:=bl_alloc (Below.refl w.heap.size w) (.cells (cs22 d v m mv) 53)
 have hB:=Blk.new w 53 (cs22 d v m mv)
 refine(kright_any [(d,m),(v,mv)] (by simp) w.heap.size 2 _ (hown.old hb) hB.lt fun j x mx hj=> ?_).mono fun e w' hh=> ?_
 ·match j,hj with
  | 0,hj=>
   injection hj with hj
   injection hj with h1 h2
   subst h1 h2
   exact⟨range_of hB 0 11 rfl,ho,S,hd.old hb⟩
  | 1,hj=>
   injection hj with hj
   injection hj with h1 h2
   subst h1 h2
   exact⟨range_of hB 11 11 rfl,hvo,T,hv.old hb⟩
 ·obtain⟨x,h1,h2,h3⟩:=hh
  refine⟨x,h1, ?_,bl_trans hb h3⟩
  simp only[List.all_cons,List.all_nil,Bool.and_true] at h2
  split at h2
  ·rw[if_pos (by assumption)];exact h2
  ·rw[if_neg (by assumption)]
   obtain⟨g,q1,q2,q3⟩:=h2
   exact⟨g,q1,q2,Nat.le_trans hb.size q3⟩
set_option maxHeartbeats 2000000 in
theorem kput_any{w:World}{m:Nat}{R:List En}{D O:Nat->Prop}(hM:MapAt w m R D O)(h0: ¬O 0)(hL:R.length<=549755813887){d v:Dt}{md mv:Dm}{S T:Nat->Prop}(ho:d.ok)(hvo:v.ok)(hd:d.at w S md)(hv:v.at w T mv)(hS: ∀b,S b->¬O b)(hT: ∀b,T b->¬O b)(hown:OwnAt w):
  Calls Tryz.prog 70 #[.pointer (some ⟨m,0,none⟩),.agg (d.cs md),.agg (v.cs mv)] w (PutR m R D O d v w):=by
 refine calls_ev (vs:=[.pointer (some ⟨m,0,none⟩),.agg (d.cs md),.agg (v.cs mv)]) 97 Tryz.func70 kp_body (by kernel_rfl) (by simp) fun a0 h0'=> ?_
 unfold kpBody
 refine wp_seq (rg_wp (kp_r0 h0' rfl rfl fun a1 h1=> ?_))
 have hA1:=(Blk.new w 53 (d.cs md)).alloc (.cells (v.cs mv) 53)
 have hZ1:=Blk.new1 w (.cells (d.cs md) 53) 53 (v.cs mv)
 have hb1:=bl_alloc (bl_alloc (Below.refl w.heap.size w) (.cells (d.cs md) 53)) (.cells (v.cs mv) 53)
 have hs1:(w.alloc (.cells (d.cs md) 53)).heap.size=w.heap.size+1:=by simp
 rw[hs1] at h1
 have hsz:((w.alloc (.cells (d.cs md) 53)).alloc (.cells (v.cs mv) 53)).heap.size=w.heap.size+2:=by simp
 show Code.wp _ _ _ a1 ((w.alloc (.cells (d.cs md) 53)).alloc (.cells (v.cs mv) 53))
 generalize (w.alloc (.cells (d.cs md) 53)).alloc (.cells (v.cs mv) 53)=w1 at hA1 hZ1 hb1 hsz ⊢
 have hd1:=hd.old hb1
 have hv1:=hv.old hb1
 refine wp_seq (wp_seq (rg_wp (kp_r1 (C0:=fun x u=>(if(rB d&&rB v)=true then x=.nilIface else WrongAt w1 u x)/\Below w1.heap.size w1 u) h1 rfl rfl (dat_whole hA1) (dat_whole hZ1) (kright_two ho hvo hd1 hv1 (hown.old hb1)) fun a2 v2 w2 hx h2=> ?_)))
 obtain⟨hw2,hb2⟩:=hx
 have hb02:=bl_trans hb1 hb2
 cases hr:rB d&&rB v with
 | false=>
  rw[hr,if_neg (by decide)] at hw2
  obtain⟨g,rfl,hg,hgs⟩:=hw2
  refine wp_seq (rg_wp (kp_r2e h2 rfl fun a3 h3=>wp_cond_true (h3.look 18 rfl) ?_))
  refine wp_seq (rg_wp (kp_r3 h3 rfl fun a4 h4=>wp_ret (then_ret ?_)))
  refine ret1 rfl h4 rfl ?_
  unfold PutR
  rw[if_pos hr]
  exact⟨hb02,_,rfl,g,rfl,hg,by omega⟩
 | true=>
 have hrr:=hr
 rw[Bool.and_eq_true] at hrr
 obtain⟨hrd,hrv⟩:=hrr
 rw[hr,if_pos rfl] at hw2
 subst hw2
 refine wp_seq (rg_wp (kp_r2n h2 rfl fun a3 h3=>wpo (h3.look 18 rfl) ?_))
 have hA2:=hA1.below hb2 hA1.lt
 have hZ2:=hZ1.below hb2 hZ1.lt
 refine wp_seq (rg_wp (kp_r4 (C0:=fun x y z u=> ∃q,x=.pointer q/\Below w2.heap.size w2 u/\if kB d=true then q=pO (fE R d)/\z=.nilIface/\y=.int .u64 (hV d) else q=none/\FaultAt w2 u z keyW (heldS d.h d.k)) h3 rfl rfl (dat_whole hA2) ((kfind_any (hM.old hb02) ho hrd (hd.old hb02) (hown.old hb02)).mono fun e w' hh=>by
  obtain⟨q1,q2⟩:=hh
  cases hk:kB d with
  | true=>
   rw[hk,if_pos rfl] at q2
   exact⟨_,_,_,q2,_,rfl,q1,by rw[if_pos rfl];exact⟨rfl,rfl,rfl⟩⟩
  | false=>
   rw[hk,if_neg (by decide)] at q2
   obtain⟨v,q2,q3⟩:=q2
   exact⟨_,_,_,q2,_,rfl,q1,by rw[if_neg (by decide)];exact⟨rfl,q3⟩⟩) fun a4 x4 y4 z4 w4 hx h4=> ?_))
 obtain⟨q,rfl,hb4,hq⟩:=hx
 have hb04:=bl_trans hb02 hb4
 have hA4:=hA2.below hb4 hA2.lt
 have hZ4:=hZ2.below hb4 hZ2.lt
 have z1:=hb1.size
 have z2:=hb2.size
 have z4:=hb4.size
 have hOw: ∀b,O b->b<w.heap.size:=by
  obtain⟨_,_,_,_,_,_,_,_,_,_,_,_,_,_,_,h⟩:=hM
  exact h
 have hO0:0<w.heap.size:=by have:=hM.mlt;omega
 cases hk:kB d with
 | false=>
  rw[hk,if_neg (by decide)] at hq
  obtain⟨rfl,g,rfl,hg,hgs⟩:=hq
  refine wp_seq (wp_seq (rg_wp (kp_r5e h4 rfl fun a5 h5=>wp_cond_true (h5.look 28 rfl) ?_)))
  refine wp_seq (rg_wp (kp_r6 h5 rfl fun a6 h6=>wp_ret (then_ret ?_)))
  refine ret1 rfl h6 rfl ?_
  unfold PutR
  rw[if_neg (by rw[hr];decide),if_pos hk]
  exact⟨hb04,_,rfl,g,rfl,hg,by omega⟩
 | true=>
 rw[hk,if_pos rfl] at hq
 obtain⟨rfl,rfl,rfl⟩:=hq
 have good: ∀{R':List En} {u:World},PutNew R d v R'->PutOk w u m R' D O->PutR m R D O d v w (.returned .nilIface) u:=fun h1 h2=>by
  unfold PutR
  rw[if_neg (by rw[hr];decide),if_neg (by rw[hk];decide)]
  exact⟨rfl,_,h1,h2⟩
 refine wp_seq (wp_seq (rg_wp (kp_r5n h4 rfl fun a5 h5=>wpo (h5.look 28 rfl) ?_)))
 obtain⟨hb,n,H,N,B,A,hn0,hn1,hR,hH,hLk,hKO,o1,o2,o3,o4⟩:=hM.old hb04
 cases hf:fE R d with
 | some x=>
  have hpe:pO (some x)=some ⟨x.g,0,none⟩:=rfl
  rw[hf,hpe] at h5
  have hxR:=fE_mem hf
  obtain⟨mk,m0,hBe,_⟩:=hR.ent x hxR
  refine wp_seq (wp_seq (rg_wp (kp_r7e h5 rfl (fun w=>neq_none ⟨x.g,0,none⟩ w) fun a6 h6=>wp_cond_true (h6.look 31 rfl) ?_)))
  refine wp_seq (rg_wp (kp_r8 (C0:=fun y u=>v.at u (fun b=>w4.heap.size<=b) y/\Below w4.heap.size w4 u) h6 rfl rfl (dat_whole hZ4) (kcopied_any hvo (hv.old hb04)) (fun y u hy=>dat_store (d:=v) (hBe.below hy.2 hBe.lt) (by show 11+11<=27;omega)) fun a7 y7 w7 hy h7=> ?_))
  refine wp_seq (rg_wp (kp_r9 h7 fun a8 h8=>wp_ret (then_ret ?_)))
  obtain⟨hy1,hy2⟩:=hy
  have hb07:=bl_trans hb04 hy2
  have z7:=hy2.size
  have z5:=hb04.size
  refine ret1 rfl h8 rfl (good (R':=R.map (svE x.g v)) (by unfold PutNew;rw[hf]) ?_)
  refine⟨fun b=>D b\/(w4.heap.size<=b/\b<w7.heap.size),O, ?_,(Moved.of_below hb07).set (.inl (o3 x hxR)) 11 _,⟨fun b h=>.inl h,fun b h=>h.imp_right fun h=>by omega⟩,Grew.refl _ _⟩
  have hR7:=(hR.old hy2).more (D':=fun b=>D b\/(w4.heap.size<=b/\b<w7.heap.size)) (fun b h=>.inl h) (fun b h=>h.elim (fun h=>by have:=hR.dlt b h;omega) (fun h=>h.2)) (fun h=>h.elim hR.out.1 (fun h=>by have:=hR.mlt;omega)) (fun h=>h.elim hR.out.2.1 (fun h=>by have:=hR.hlt;omega))
   (fun e he h=>h.elim (hR.out.2.2 e he) (fun h=>by have:=hR.elt he;omega))
  have hv7:v.at w7 (fun b=>D b\/(w4.heap.size<=b/\b<w7.heap.size)) y7:=hy1.keep (fun _ _ _=>rfl) (fun b hb hl=>.inr ⟨hb,hl⟩)
  have hR8:=hR7.setVal hxR hv7 hvo
  exact⟨hb,n,H,N,B,A,hn0,hn1,hR8.by (pO_last (svE_g _ _) R).symm (pO_head (svE_g _ _) R).symm (by simp) (fun _ _=>rfl) (fun _ _=>⟨rfl,rfl,rfl⟩),hH.sv _ _,hLk.sv _ _,hKO.sv _ _,o1,o2,(fun e he=>by
   obtain⟨y,hy,rfl⟩:=List.mem_map.1 he
   rw[svE_g];exact o3 y hy),fun b hb=>by rw[setCells_size'];have:=o4 b hb;omega⟩
 | none=>
 have hpe:pO (none:Option En)=none:=rfl
 rw[hf,hpe] at h5
 refine wp_seq (wp_seq (rg_wp (kp_r7n h5 rfl (fun w=>neq_nn w) fun a6 h6=>wpo (h6.look 31 rfl) ?_)))
 have ran:=hash_range d
 have rest: ∀(a7:Act) (w7:World) (hb n:Nat) (H N:Nat->Option Addr),Sl 97 a7 [(9,.int .u64 (hV d)),(5,.pointer (some ⟨w.heap.size+1,0,none⟩)),(4,.pointer (some ⟨w.heap.size,0,none⟩)),(0,.pointer (some ⟨m,0,none⟩))]->0<n->n<=1099511627776->
   Raw w7 m hb n (pO R.getLast?) (pO R.head?) (R.length:Int) H N B A R D->HeadsOk n R H->NOk n R N->(O hb\/w.heap.size<=hb)->Moved O w w7->Blk w7 w.heap.size 53 (d.cs md)->Blk w7 (w.heap.size+1) 53 (v.cs mv)->
   Code.wp Tryz.prog (.seq (r_kp 12) (.seq (r_kp 13) (.seq (r_kp 14) (.seq (.seq (r_kp 15) (.cond (.tmp 74) (r_kp 16) (r_kp 17))) (.seq (r_kp 18) (.seq (r_kp 19) (.seq (r_kp 20) .ret))))))) (bodyPost Tryz.prog Tryz.f70 (PutR m R D O d v w)) a7 w7:=by
  intro a7 w7 hb n H N h7 hn0 hn1 hR hH hN hOhb hMv hA7 hZ7
  have hd7:=hd.moved hMv (fun b hb _=>hS b hb)
  have hv7:=hv.moved hMv (fun b hb _=>hT b hb)
  have hown7:=hown.moved hMv h0 hO0
  refine wp_seq (rg_wp (kp_r12 (ow:=eqO d d) (C0:=fun _ u=>Below w7.heap.size w7 u) h7 rfl (dat_whole hA7) ((vEqual ho ho hd7 hd7 hown7).mono fun e w' hh=>by
   obtain⟨q1,b,x,q2,q3⟩:=hh
   have hnf:=no_fault (a:=d) hrd hk
   rw[if_pos (by rw[show rightB d.h d.k=true from hrd];rfl),if_pos hnf,if_pos hnf] at q3
   obtain⟨rfl,rfl⟩:=q3
   exact⟨_,q2,q1⟩) fun a8 x8 w8 hb8 h8=> ?_))
  have hMv8:=hMv.trans (Moved.of_below hb8)
  have hR8:=hR.old hb8
  have hA8:=hA7.below hb8 hA7.lt
  have hZ8:=hZ7.below hb8 hZ7.lt
  have hd8:=hd7.old hb8
  have hv8:=hv7.old hb8
  obtain⟨cs,hBm,hz,c8,c9,c10,c11⟩:=hR8.map
  have hdr:Below w8.heap.size w8 (w8.drewN 1):=below_drewN (Below.refl _ _) 1
  refine wp_seq (rg_wp (kp_r13 (C:=fun u=>Below w8.heap.size w8 u) (C0:=fun y u=>d.at u (fun b=>w8.heap.size<=b) y/\Below w8.heap.size w8 u) (C1:=fun u0 y u=>v.at u (fun b=>u0.heap.size<=b) y/\Below u0.heap.size u0 u)
   h8 rfl rfl rfl rfl rfl (fun u hu=>dat_whole (hA8.below hu hA8.lt)) (fun u hu=>dat_whole (hZ8.below hu hZ8.lt)) (fun u hu=>one_load (hBm.below hu hBm.lt) Tryz.underlying161 rfl c10) hdr
   ((kcopied_any ho (hd8.old hdr)).mono fun e w' hh=>let⟨y,q1,q2,q3⟩:=hh;⟨y,q1,q2,bl_trans hdr q3⟩) (fun y u hy=>hy.2) (fun y u hy=>kcopied_any hvo (hv8.old hy.2)) (fun y u hy z u2 hz=>bl_trans hy.2 hz.2) (fun y u hy z u2 hz=>bl_alloc (bl_trans hy.2 hz.2) _)
   fun a9 y9 w9 z9 w10 hy hz h9=> ?_))
  obtain⟨hy1,hy2⟩:=hy
  obtain⟨hz1,hz2⟩:=hz
  have s9:=hy2.size
  have s10:=hz2.size
  have s8:=hMv8.size
  have hb10:=bl_trans hy2 hz2
  obtain⟨e,he⟩: ∃e:En,e=⟨w10.heap.size,d,v,hV d,eqO d d⟩:=⟨_,rfl⟩
  have eg:e.g=w10.heap.size:=by rw[he]
  have hBe:Blk (w10.alloc (.cells (e.cs y9 z9 none (pO R.head?) none) entT)) e.g entT (e.cs y9 z9 none (pO R.head?) none):=by rw[eg];exact Blk.new _ _ _
  have hb11:Below w8.heap.size w8 (w10.alloc (.cells (e.cs y9 z9 none (pO R.head?) none) entT)):=bl_alloc hb10 _
  have hba:Below w10.heap.size w10 (w10.alloc (.cells (e.cs y9 z9 none (pO R.head?) none) entT)):=bl_alloc (Below.refl _ _) _
  have hs11:(w10.alloc (.cells (e.cs y9 z9 none (pO R.head?) none) entT)).heap.size=w10.heap.size+1:=by simp
  have hwe:w10.alloc (.cells (En.cs ⟨w10.heap.size,d,v,hV d,eqO d d⟩ y9 z9 none (pO R.head?) none) entT)=w10.alloc (.cells (e.cs y9 z9 none (pO R.head?) none) entT):=by rw[he]
  show Code.wp _ _ _ a9 (w10.alloc (.cells (En.cs ⟨w10.heap.size,d,v,hV d,eqO d d⟩ y9 z9 none (pO R.head?) none) entT))
  rw[hwe]
  rw[<-eg] at h9
  generalize w10.alloc (.cells (e.cs y9 z9 none (pO R.head?) none) entT)=w11 at hBe hb11 hba hs11 ⊢
  obtain⟨D',hD'⟩: ∃D':Nat->Prop,D'=fun b=>D b\/(w8.heap.size<=b/\b<w10.heap.size):=⟨_,rfl⟩
  have hR11:Raw w11 m hb n (pO R.getLast?) (pO R.head?) (R.length:Int) H N B A R D':=by
   rw[hD']
   exact(hR8.old hb11).more (fun b h=>.inl h) (fun b h=>h.elim (fun h=>by have:=hR8.dlt b h;omega) (fun h=>by omega)) (fun h=>h.elim hR8.out.1 (fun h=>by have:=hR8.mlt;omega)) (fun h=>h.elim hR8.out.2.1 (fun h=>by have:=hR8.hlt;omega))
    (fun x hx h=>h.elim (hR8.out.2.2 x hx) (fun h=>by have:=hR8.elt hx;omega))
  have hne: ∀x∈R,x.g≠e.g:=fun x hx=>by have:=hR8.elt hx;omega
  have hd11:e.key.at w11 D' y9:=by
   rw[hD',he]
   exact hy1.keep (fun b _ hl=>(bl_trans hz2 hba).block b hl) (fun b hb hl=>.inr ⟨hb,by omega⟩)
  have hv11:e.val.at w11 D' z9:=by
   rw[hD',he]
   exact hz1.keep (fun b _ hl=>hba.block b hl) (fun b hb hl=>.inr ⟨by have:w9.heap.size<=b:=hb;omega,hl⟩)
  have hDe: ¬D' e.g:=by
   rw[hD']
   exact fun h=>h.elim (fun h=>by have:=hR8.dlt _ h;omega) (fun h=>by omega)
  have heo:e.key.ok/\e.val.ok/\0<=e.hash/\e.hash<=18446744073709551615:=by rw[he];exact⟨ho,hvo,ran.1,ran.2⟩
  have hRe:Raw w11 m hb n (pO R.getLast?) (pO R.head?) (R.length:Int) H (upd N e.g none) (upd B e.g (pO R.head?)) (upd A e.g none) (e::R) D':=
   (hR11.by rfl rfl rfl (fun _ _=>rfl) (fun x hx=>⟨(upd_ne (hne x hx)).symm,(upd_ne (hne x hx)).symm,(upd_ne (hne x hx)).symm⟩)).push e (by rw[upd_same,upd_same,upd_same];exact hBe) hd11 hv11 hne (by have:=hR8.mlt;omega) (by have:=hR8.hlt;omega) hDe heo
  have hMv11:Moved O w w11:=hMv8.trans (Moved.of_below hb11)
  have hem:e∈e::R:=List.mem_cons_self
  refine wp_seq (rg_wp (kp_r14 h9 rfl rfl (kchain_any hRe hn0 hn1 hem) fun a10 w12 hx h10=> ?_))
  obtain⟨hR12,hT⟩:=hx
  have hMv12:Moved O w w12:=hMv11.two hT (.inr (by omega)) hOhb
  have hNk:NOk n (e::R) (upd (upd N e.g none) e.g (H (e.hash.toNat % n))):=(hN.other hne none).push hH hn0 hne
  have hHd:HeadsOk n (e::R) (upd H (e.hash.toNat % n) (some e.p)):=hH.push
  have hnd:=hR12.nd
  have s12:=hT.size
  have tail: ∀(a13:Act) (w13:World) (A':Nat->Option Addr),Sl 97 a13 [(8,.pointer (some ⟨e.g,0,none⟩)),(0,.pointer (some ⟨m,0,none⟩))]->Raw w13 m hb n (pO (e::R).getLast?) (pO R.head?) (R.length:Int) (upd H (e.hash.toNat % n) (some e.p)) (upd (upd N e.g none) e.g (H (e.hash.toNat % n))) (upd B e.g (pO R.head?)) A' (e::R) D'->
    A'=upH R (upd A e.g none) e.p->Moved O w w13->w13.heap.size=w12.heap.size->Code.wp Tryz.prog (.seq (r_kp 18) (.seq (r_kp 19) (.seq (r_kp 20) .ret))) (bodyPost Tryz.prog Tryz.f70 (PutR m R D O d v w)) a13 w13:=by
   intro a13 w13 A' h13 hR13 hA' hMv13 hs13
   obtain⟨cs,hBm,hz,_,_,_,_⟩:=hR13.map
   refine wp_seq (rg_wp (kp_r18 h13 rfl rfl (one_store hBm ptrInf (by omega) rfl) fun a14 h14=> ?_))
   have hR14:=hR13.setTo (some ⟨e.g,0,none⟩)
   have hMv14:=hMv13.set (.inl o1) 10 [.pointer (some ⟨e.g,0,none⟩)]
   have hs14:(w13.setCells m 10 [.pointer (some ⟨e.g,0,none⟩)]).heap.size=w12.heap.size:=(setCells_size' _ _ _ _).trans hs13
   generalize w13.setCells m 10 [.pointer (some ⟨e.g,0,none⟩)]=w14 at hR14 hMv14 hs14 ⊢
   obtain⟨cs,hBm,hz,_,_,_,c11⟩:=hR14.map
   refine wp_seq (rg_wp (kp_r19 (ny:=R.length) h14 rfl (one_load hBm Tryz.underlying3 rfl c11) (by omega) (one_store hBm (by kernel_rfl) (by omega) rfl) fun a15 h15=> ?_))
   have hR15:=hR14.setMany ((R.length:Int)+1)
   have hMv15:=hMv14.set (.inl o1) 11 [.int .i64 ((R.length:Int)+1)]
   have hs15:(w14.setCells m 11 [.int .i64 ((R.length:Int)+1)]).heap.size=w12.heap.size:=(setCells_size' _ _ _ _).trans hs14
   generalize w14.setCells m 11 [.int .i64 ((R.length:Int)+1)]=w15 at hR15 hMv15 hs15 ⊢
   refine wp_seq (rg_wp (kp_r20 h15 fun a16 h16=>wp_ret ?_))
   refine ret1 rfl h16 rfl (good (R':=e::R) (by unfold PutNew;rw[hf];exact⟨_,by rw[he]⟩) ?_)
   refine⟨D',fun b=>O b\/(w.heap.size<=b/\b<w12.heap.size),⟨hb,n,_,_,_,_,hn0,hn1,hR15.by rfl rfl (by simp) (fun _ _=>rfl) (fun _ _=>⟨rfl,rfl,rfl⟩),hHd, ?_, ?_,.inl o1, ?_, ?_, ?_⟩,hMv15, ?_,⟨fun b h=>.inl h,fun b h=>h.imp_right fun h=>h.1⟩⟩
   ·exact(show Links n R N B A from fun X x Z hX=>⟨hN X x Z hX,(hLk X x Z hX).2⟩).push hnd hNk rfl hA'
   ·exact hKO.push (by rw[he];exact hrd) (by rw[he];exact hk) (by rw[he]) (by rw[he])
   ·exact hOhb.imp_right fun h=>⟨h,by have:=hR12.hlt;omega⟩
   ·intro x hx
    rcases List.mem_cons.1 hx with rfl | hx
    ·exact .inr ⟨by omega,by omega⟩
    ·exact .inl (o3 x hx)
   ·intro b hb
    rw[hs15]
    exact hb.elim (fun h=>by have:=hOw b h;omega) (fun h=>h.2)
   ·rw[hD']
    exact⟨fun b h=>.inl h,fun b h=>h.imp_right fun h=>by omega⟩
  obtain⟨cs,hBm,hz,_,_,c10,_⟩:=hR12.map
  cases R with
  | nil=>
   refine wp_seq (wp_seq (rg_wp (kp_r15n h10 rfl (one_load hBm Tryz.underlying161 rfl c10) (fun w=>eql_nn w) fun a11 h11=>wp_cond_true (h11.look 74 rfl) ?_)))
   refine rg_wp (kp_r16 h11 rfl rfl (one_store hBm ptrInf (by omega) rfl) fun a12 h12=> ?_)
   exact tail a12 _ _ (h12.to ⟨rfl,rfl,trivial⟩) (hR12.setFrom _) rfl (hMv12.set (.inl o1) _ _) (setCells_size' _ _ _ _)
  | cons r R=>
   have hr':r∈e::r::R:=by simp
   obtain⟨mk,m0,hBr,_⟩:=hR12.ent r hr'
   refine wp_seq (wp_seq (rg_wp (kp_r15e h10 rfl (one_load hBm Tryz.underlying161 rfl c10) (fun w=>eql_none ⟨r.g,0,none⟩ w) fun a11 h11=>wp_cond_false (h11.look 74 rfl) ?_)))
   refine rg_wp (kp_r17 h11 rfl rfl (one_load hBm Tryz.underlying161 rfl c10) (one_store hBr ptrInf (by show 25<27;omega) rfl) fun a12 h12=> ?_)
   refine tail a12 _ _ (h12.to ⟨rfl,rfl,trivial⟩) ?_ rfl (hMv12.set (.inl (o3 r (by simp))) _ _) (setCells_size' _ _ _ _)
   rw[List.getLast?_cons_cons]
   exact hR12.setA hr' _
 obtain⟨cs,hBm,hz,c8,c9,c10,c11⟩:=hR.map
 have hMv4:Moved O w w4:=Moved.of_below hb04
 by_cases hg:n<=R.length
 ·refine wp_seq (wp_seq (rg_wp (kp_r10 (ny:=R.length) (nh:=n) h6 rfl (one_load hBm Tryz.underlying3 rfl c11) (one_load hBm Tryz.underlying167 rfl c8) (decide_eq_true (by omega)) fun a7 mm h7=>wp_cond_true (h7.look 46 rfl) ?_)))
  have hdr:=below_drewN (Below.refl w4.heap.size w4) mm
  refine rg_wp (kp_r11 h7 rfl (kgrow_any (hR.old hdr) (fun X e Z hX=>(hLk X e Z hX).2.2) hn0 (by omega)) fun a8 w8 hx h8=> ?_)
  obtain⟨hb',H',N',hR8,hH8,hN8,hhb,hMv⟩:=hx
  have hMv':Moved O w4 w8:=⟨hMv.size,hMv.os,hMv.tape,hMv.output,fun b hb ho=>hMv.block b hb fun h=>h.elim (fun e=>ho (e ▸ o1)) (fun⟨x,hx,e⟩=>ho (e ▸ o3 x hx))⟩
  have hMv8:Moved O w w8:=hMv4.trans (hMv'.more fun x h=>.inl h)
  exact rest a8 w8 hb' (2*n) H' N' (h8.to ⟨rfl,rfl,rfl,rfl,trivial⟩) (by omega) (by omega) hR8 hH8 hN8 (.inr (by have:w4.heap.size<=hb':=hhb;omega)) hMv8 (hA4.moved hMv' (fun h=>by have:=hOw _ h;omega)) (hZ4.moved hMv' (fun h=>by have:=hOw _ h;omega))
 ·refine wp_seq (wp_seq (rg_wp (kp_r10 (ny:=R.length) (nh:=n) h6 rfl (one_load hBm Tryz.underlying3 rfl c11) (one_load hBm Tryz.underlying167 rfl c8) (decide_eq_false (by omega)) fun a7 mm h7=>wpo (h7.look 46 rfl) ?_)))
  have hdr:=below_drewN (Below.refl w4.heap.size w4) mm
  exact rest a7 (w4.drewN mm) hb n H N (h7.to ⟨rfl,rfl,rfl,rfl,trivial⟩) hn0 hn1 (hR.old hdr) hH hLk.nok (.inl o2) (hMv4.trans (Moved.of_below hdr)) (hA4.drewN mm) (hZ4.drewN mm)
end Go.Proofs.YtbjegfpfmnleeaaGreatDoor

namespace Go.Proofs.YtbjegfpfmnleeaaGreatDoor
open Go.RowKit
set_option maxRecDepth 100000
theorem split_at{α:Type}{X Z P S:List α}{y:α}(h:X++Z=P++y::S):(∃X',X=P++y::X'/\S=X'++Z)\/∃P',Z=P'++y::S/\P=X++P':=by
 rcases List.append_eq_append_iff.1 h.symm with⟨a,h1,h2⟩ | ⟨a,h1,h2⟩
 ·cases a with
  | nil=>exact .inr ⟨[],by simpa using h2.symm,by simpa using h1.symm⟩
  | cons b a=>
   injection h2 with h3 h4
   subst h3
   exact .inl ⟨a,h1,h4⟩
 ·exact .inr ⟨a,h2,h1⟩
def lastB(n:Nat)(h:Int)(X:List En):Option En:=(X.filter (bkB n h)).getLast?
theorem lastB_more{n:Nat}{h:Int}{X Y:List En}(hn:Y.find? (bkB n h)=none):lastB n h (X++Y)=lastB n h X:=by
 unfold lastB
 rw[List.filter_append,show Y.filter (bkB n h)=[] from List.filter_eq_nil_iff.2 fun a ha=>List.find?_eq_none.1 hn a ha,List.append_nil]
theorem lastB_one{n:Nat}{h:Int}{X:List En}{y:En}(hy:bkB n h y=true):lastB n h (X++[y])=some y:=by
 unfold lastB
 rw[List.filter_append,List.filter_cons_of_pos hy,List.filter_nil,List.getLast?_append]
 rfl
theorem lastB_mem{n:Nat}{h:Int}{X:List En}{y:En}(hl:lastB n h X=some y):y∈X/\bkB n h y=true:=by
 have:=List.mem_of_getLast? hl
 exact List.mem_filter.1 this
theorem lastB_none{n:Nat}{h:Int}{X:List En}(hl:lastB n h X=none):X.find? (bkB n h)=none:=by
 unfold lastB at hl
 rw[List.getLast?_eq_none_iff,List.filter_eq_nil_iff] at hl
 exact List.find?_eq_none.2 hl
theorem lastB_some{n:Nat}{h:Int}{X:List En}{y:En}(hl:lastB n h X=some y):(X.find? (bkB n h)).isSome=true:=by
 obtain⟨h1,h2⟩:=lastB_mem hl
 exact List.find?_isSome.2 ⟨y,h1,h2⟩
theorem bk_eq{n:Nat}{a b:Int}(h:a.toNat % n=b.toNat % n):bkB n a=bkB n b:=by
 funext x
 unfold bkB
 rw[h]
theorem bk_of{n:Nat}{h:Int}{x:En}(hx:bkB n h x=true):bkB n x.hash=bkB n h:=bk_eq (by
 unfold bkB at hx
 simpa using hx)
def dropH(n:Nat)(X:List En)(e:En)(H:Nat->Option Addr)(p:Option Addr):Nat->Option Addr:=match lastB n e.hash X with
 | none=>upd H (e.hash.toNat % n) p
 | some _=>H
def dropN(n:Nat)(X:List En)(e:En)(N:Nat->Option Addr)(p:Option Addr):Nat->Option Addr:=match lastB n e.hash X with
 | none=>N
 | some x=>upd N x.g p
def dropA(Z:List En)(A:Nat->Option Addr)(p:Option Addr):Nat->Option Addr:=match Z with
 | []=>A
 | z::_=>upd A z.g p
def dropB(X:List En)(B:Nat->Option Addr)(p:Option Addr):Nat->Option Addr:=match X.getLast? with
 | none=>B
 | some x=>upd B x.g p
section
variable {n:Nat} {X Z:List En} {e:En} {H N B A:Nat->Option Addr}
theorem find_skip{p:En->Bool}(hp:p e=false):(X++e::Z).find? p=(X++Z).find? p:=by
 rw[List.find?_append,List.find?_append,List.find?_cons_of_neg (by rw[hp];decide)]
theorem HeadsOk.drop(h:HeadsOk n (X++e::Z) H):HeadsOk n (X++Z) (dropH n X e H (pO (Z.find? (bkB n e.hash)))):=by
 intro i hi
 unfold dropH
 by_cases hk:i=e.hash.toNat % n
 ·subst hk
  have hf:(fun x:En=>x.hash.toNat % n==e.hash.toNat % n)=bkB n e.hash:=rfl
  have h1:=h _ hi
  rw[hf] at h1 ⊢
  cases hl:lastB n e.hash X with
  | none=>
   show upd H _ _ _=_
   rw[upd_same,List.find?_append,lastB_none hl,Option.none_or]
  | some x=>
   show H _=_
   rw[h1,List.find?_append,List.find?_append]
   obtain⟨y,hy⟩:=Option.isSome_iff_exists.1 (lastB_some hl)
   rw[hy]
   rfl
 ·have h1:=h i hi
  rw[find_skip (by simpa using fun q=>hk q.symm)] at h1
  cases hl:lastB n e.hash X with
  | none=>
   show upd H _ _ _=_
   rw[upd_ne hk];exact h1
  | some x=>exact h1
theorem NOk.drop(h:NOk n (X++e::Z) N)(hnd:((X++e::Z).map (·.g)).Nodup):NOk n (X++Z) (dropN n X e N (pO (Z.find? (bkB n e.hash)))):=by
 rw[List.map_append,List.map_cons,List.nodup_append] at hnd
 obtain⟨hX,hZ,hXZ⟩:=hnd
 have hxz: ∀a∈X,∀b∈Z,a.g≠b.g:=fun a ha b hb=>hXZ _ (List.mem_map.2 ⟨a,ha,rfl⟩) _ (List.mem_cons_of_mem _ (List.mem_map.2 ⟨b,hb,rfl⟩))
 intro P y S hy
 unfold dropN
 rcases split_at hy with⟨X',rfl,rfl⟩ | ⟨P',rfl,rfl⟩
 ·have h1:=h P y (X'++e::Z) (by simp)
  by_cases hb:bkB n y.hash e=true
  ·have hbe:bkB n y.hash=bkB n e.hash:=(bk_of hb).symm
   have hye:bkB n e.hash y=true:=by rw[<-hbe];unfold bkB;simp
   rw[hbe] at h1 ⊢
   cases hf:X'.find? (bkB n e.hash) with
   | none=>
    have hl:lastB n e.hash (P++y::X')=some y:=by
     rw[show P++y::X'=(P++[y])++X' by simp,lastB_more hf,lastB_one hye]
    rw[hl]
    show upd N y.g _ y.g=_
    rw[upd_same,List.find?_append,hf,Option.none_or]
   | some z=>
    have hl: ∃x,lastB n e.hash (P++y::X')=some x/\x∈X':=by
     have hzX:=List.mem_of_find?_eq_some hf
     have hzb:=List.find?_some hf
     unfold lastB
     rw[show P++y::X'=(P++[y])++X' by simp,List.filter_append,List.getLast?_append]
     cases hq:(X'.filter (bkB n e.hash)).getLast? with
     | none=>
      rw[List.getLast?_eq_none_iff,List.filter_eq_nil_iff] at hq
      exact absurd hzb (hq z hzX)
     | some x=>exact⟨x,rfl,(List.mem_filter.1 (List.mem_of_getLast? hq)).1⟩
    obtain⟨x,hl,hxX⟩:=hl
    rw[hl]
    show upd N x.g _ y.g=_
    rw[upd_ne,h1,List.find?_append,List.find?_append,hf]
    ·rfl
    ·intro q
     rw[List.map_append,List.map_cons,List.nodup_append] at hX
     exact(List.nodup_cons.1 hX.2.1).1 (List.mem_map.2 ⟨x,hxX,q.symm⟩)
  ·have hb':bkB n y.hash e=false:=by simpa using hb
   rw[find_skip hb'] at h1
   cases hl:lastB n e.hash (P++y::X') with
   | none=>exact h1
   | some x=>
    show upd N x.g _ y.g=_
    rw[upd_ne]
    ·exact h1
    ·intro q
     have hyx:y=x:=nd_eq hX (by simp) (lastB_mem hl).1 q
     subst hyx
     have:=(lastB_mem hl).2
     apply hb
     unfold bkB at this ⊢
     rw[beq_iff_eq] at this ⊢
     exact this.symm
 ·have h1:=h (X++e::P') y S (by simp)
  cases hl:lastB n e.hash X with
  | none=>exact h1
  | some x=>
   show upd N x.g _ y.g=_
   rw[upd_ne]
   ·exact h1
   ·exact fun q=>hxz x (lastB_mem hl).1 y (by simp) q.symm
theorem Links.drop(h:Links n (X++e::Z) N B A)(hnd:((X++e::Z).map (·.g)).Nodup){N':Nat->Option Addr}(hN:NOk n (X++Z) N'):Links n (X++Z) N' (dropB X B (pO Z.head?)) (dropA Z A (pO X.getLast?)):=by
 rw[List.map_append,List.map_cons,List.nodup_append] at hnd
 obtain⟨hX,hZ,hXZ⟩:=hnd
 have hxz: ∀a∈X,∀b∈Z,a.g≠b.g:=fun a ha b hb=>hXZ _ (List.mem_map.2 ⟨a,ha,rfl⟩) _ (List.mem_cons_of_mem _ (List.mem_map.2 ⟨b,hb,rfl⟩))
 intro P y S hy
 refine⟨hN P y S hy, ?_⟩
 rcases split_at hy with⟨X',rfl,rfl⟩ | ⟨P',rfl,rfl⟩
 ·obtain⟨_,h1,h2⟩:=h P y (X'++e::Z) (by simp)
  constructor
  ·unfold dropB
   cases hq:X'.getLast? with
   | none=>
    rw[List.getLast?_eq_none_iff] at hq
    subst hq
    rw[List.getLast?_append]
    show upd B y.g _ y.g=_
    rw[upd_same]
    rfl
   | some x=>
    have hxX:=List.mem_of_getLast? hq
    rw[show P++y::X'=(P++[y])++X' by simp,List.getLast?_append,hq]
    show upd B x.g _ y.g=_
    rw[upd_ne,h1]
    ·cases X' with
     | nil=>cases hxX
     | cons z X'=>rfl
    ·intro q
     rw[List.map_append,List.map_cons,List.nodup_append] at hX
     exact(List.nodup_cons.1 hX.2.1).1 (List.mem_map.2 ⟨x,hxX,q.symm⟩)
  ·unfold dropA
   cases Z with
   | nil=>exact h2
   | cons z Z=>
    show upd A z.g _ y.g=_
    rw[upd_ne]
    ·exact h2
    ·exact hxz y (by simp) z (by simp)
 ·obtain⟨_,h1,h2⟩:=h (X++e::P') y S (by simp)
  constructor
  ·unfold dropB
   cases hq:X.getLast? with
   | none=>exact h1
   | some x=>
    show upd B x.g _ y.g=_
    rw[upd_ne]
    ·exact h1
    ·exact fun q=>hxz x (List.mem_of_getLast? hq) y (by simp) q.symm
  ·unfold dropA
   cases P' with
   | nil=>
    show upd A y.g _ y.g=_
    rw[upd_same,List.append_nil]
   | cons z P'=>
    show upd A z.g _ y.g=_
    rw[upd_ne]
    ·rw[h2,show X++e::z::P'=(X++[e])++z::P' by simp,List.getLast?_append,List.getLast?_append,List.getLast?_append]
     cases hq:(z::P').getLast? with
     | none=>rw[List.getLast?_eq_none_iff] at hq;cases hq
     | some x=>rfl
    ·intro q
     have hZ2:=(List.nodup_cons.1 hZ).2
     rw[List.cons_append,List.map_cons,List.nodup_cons] at hZ2
     exact hZ2.1 (List.mem_map.2 ⟨y,by simp,q⟩)
theorem KeysOk.drop(h:KeysOk (X++e::Z)):KeysOk (X++Z):=
 ⟨fun x hx=>h.right x (by rcases List.mem_append.1 hx with q | q<;>simp[q]),fun x hx=>h.num x (by rcases List.mem_append.1 hx with q | q<;>simp[q])⟩
end
end Go.Proofs.YtbjegfpfmnleeaaGreatDoor

namespace Go.Proofs.YtbjegfpfmnleeaaGreatDoor
open Go.RowKit
set_option maxRecDepth 100000
section
variable {w w':World} {m hb n:Nat} {fr tx:Option Addr} {many:Int} {H N B A:Nat->Option Addr} {R:List En} {D:Nat->Prop}
end
end Go.Proofs.YtbjegfpfmnleeaaGreatDoor

namespace Go.Proofs.YtbjegfpfmnleeaaGreatDoor
open Go.RowKit
set_option maxRecDepth 100000
section
variable {w:World} {m:Nat} {R:List En} {D O:Nat->Prop} {d v:Dt} {md mv:Dm} {S T:Nat->Prop}
end
end Go.Proofs.YtbjegfpfmnleeaaGreatDoor
