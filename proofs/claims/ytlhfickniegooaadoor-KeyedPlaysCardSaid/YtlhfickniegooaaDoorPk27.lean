/-
   Written by an AI agent.
-/
import Derived.Test.YtlhfickniegooaaDoorPk26
import Derived.Test.YtlhfickniegooaaDoorPk14
import Derived.Test.YtlhfickniegooaaDoorPk22
import Derived.Test.YtlhfickniegooaaDoorPk10
import Derived.Laws.IdiomCopy
namespace Go.Proofs.YtlhfickniegooaaDoor
open Go.RowKit
set_option maxRecDepth 100000
theorem fold_set: ∀(vs:List Value) (o:Nat) (cs:Array Value),o+vs.length<=cs.size->((vs.foldl (fun(p:Array Value×Nat) v=>(p.1.setIfInBounds p.2 v,p.2+1)) (cs,o)).1).toList=cs.toList.take o++vs++cs.toList.drop (o+vs.length)
 | [],o,cs,_=>by simp
 | v::r,o,cs,h=>by
  have ho:o<cs.toList.length:=by rw[Array.length_toList];simp only[List.length_cons] at h;omega
  rw[List.foldl_cons,fold_set r (o+1) _ (by show _<=(cs.setIfInBounds o v).size;rw[Array.size_setIfInBounds];simp only[List.length_cons] at h;omega),Array.toList_setIfInBounds,List.set_eq_take_append_cons_drop,if_pos ho]
  have h1:(List.take o cs.toList).length=o:=by rw[List.length_take];omega
  have e1:(List.take o cs.toList++v::List.drop (o+1) cs.toList).take (o+1)=List.take o cs.toList++[v]:=by
   rw[List.take_append,h1,Nat.add_sub_cancel_left,List.take_of_length_le (by omega)]
   rfl
  have e2:(List.take o cs.toList++v::List.drop (o+1) cs.toList).drop (o+1+r.length)=cs.toList.drop (o+(v::r).length):=by
   rw[List.drop_append,h1,List.drop_of_length_le (by omega),List.nil_append,show o+1+r.length-o=r.length+1 by omega,List.drop_succ_cons,List.drop_drop,List.length_cons]
   congr 1
   omega
  rw[e1,e2]
  simp
theorem fold_mid{cs:Array Value}{A V B vs:List Value}{o:Nat}(h:cs.toList=A++V++B)(ho:o=A.length)(hv:vs.length=V.length):((vs.foldl (fun(p:Array Value×Nat) v=>(p.1.setIfInBounds p.2 v,p.2+1)) (cs,o)).1).toList=A++vs++B:=by
 have hs:cs.size=A.length+V.length+B.length:=by rw[<-Array.length_toList,h];simp;omega
 rw[fold_set vs o cs (by omega),h,ho,hv]
 have e1:(A++V++B).take A.length=A:=by rw[List.append_assoc,List.take_left]
 have e2:(A++V++B).drop (A.length+V.length)=B:=by rw[<-List.length_append,List.drop_left]
 rw[e1,e2]
theorem fold_size: ∀(vs:List Value) (o:Nat) (cs:Array Value),((vs.foldl (fun(p:Array Value×Nat) v=>(p.1.setIfInBounds p.2 v,p.2+1)) (cs,o)).1).size=cs.size
 | [],_,_=>rfl
 | v::r,o,cs=>by rw[List.foldl_cons,fold_size r (o+1) _,Array.size_setIfInBounds]
theorem RowE.put{w:World}{B:Nat}{s:S3}{X Z:List Re}{y:Re}(h:RowE w B s (X++y::Z)){g:Nat}(hg:s.d=some ⟨g,0,none⟩)(v:Dt)(mv:Dm):RowE (w.setCells g (X.length*23+11) (v.cs mv).toList) B s (X++{y with v:=v,dv:=mv}::Z):=by
 refine⟨⟨?_, ?_⟩,by rw[h.2];simp⟩
 ·rw[flat_len]
 ·rcases h.1.2 with⟨_,h0⟩ | ⟨g',cap,cur,hv,hB,hh,hc,hm,hz,ht⟩
  ·rw[List.length_append,List.length_cons] at h0
   omega
  ·have hd:s.d=some ⟨g',0,none⟩:=by
    have:Value.slice s.d s.n s.c=_:=hv
    injection this
   rw[hg] at hd
   injection hd with hd
   injection hd with hd
   subst hd
   have hcur:cur.toList=((X.flatMap fun x=>x.cs.toList)++(y.k.cs y.dk).toList)++(y.v.cs y.dv).toList++([.int .i64 y.n]++(Z.flatMap fun x=>x.cs.toList)++cur.toList.drop ((X++y::Z).length*23)):=by
    have e:=(List.take_append_drop ((X++y::Z).length*23) cur.toList).symm
    rw[ht,List.flatMap_append,List.flatMap_cons,show y.cs.toList=(y.k.cs y.dk).toList++(y.v.cs y.dv).toList++[.int .i64 y.n] from rfl] at e
    simpa only[List.append_assoc] using e
   have hn:=fold_mid (vs:=(v.cs mv).toList) (o:=X.length*23+11) hcur (by rw[List.length_append,flat_len];rfl) rfl
   have hb:=Blk.setL (t:=reT) (v.cs mv).toList (X.length*23+11) _ _ hh
   refine .inr ⟨g,cap,_, ?_,hB,hb, ?_,hm, ?_, ?_⟩
   ·rw[hv]
    simp
   ·simpa using hc
   ·rw[fold_size,hz]
   ·rw[hn,List.flatMap_append,List.flatMap_cons]
    have e:(((X.flatMap fun x=>x.cs.toList)++(y.k.cs y.dk).toList)++(v.cs mv).toList++([.int .i64 y.n]++(Z.flatMap fun x=>x.cs.toList)++cur.toList.drop ((X++y::Z).length*23)))=((X.flatMap fun x=>x.cs.toList)++(({y with v:=v,dv:=mv}:Re).cs.toList++(Z.flatMap fun x=>x.cs.toList)))++cur.toList.drop ((X++y::Z).length*23):=by
     rw[show({y with v:=v,dv:=mv}:Re).cs.toList=(y.k.cs y.dk).toList++(v.cs mv).toList++[.int .i64 y.n] from rfl]
     simp only[List.append_assoc]
    rw[e]
    refine List.take_left' ?_
    rw[List.length_append,List.length_append,flat_len,flat_len,re_len,List.length_append,List.length_cons]
    omega
theorem rcopied{d:Dt}{m:Dm}{w:World}{S:Nat->Prop}(ho:d.ok)(hd:d.at w S m):Calls Tryd.prog 61 #[.agg (d.cs m)] w fun e w'=> ∃x:Dm,e=.returned (.agg (d.cs x))/\(d.at w' (fun b=>w.heap.size<=b/\b<w'.heap.size) x/\Below w.heap.size w w'):=by
 refine(copied_any d.h d.k ho.h ho.k ho.len w S _ _ _ _ hd).mono fun e w' hh=> ?_
 obtain⟨pa,pc,ia,ic,q1,q2,q3⟩:=hh
 exact⟨⟨pa,pc,ia,ic⟩,q1,q2.keep (fun _ _ _=>rfl) (fun b hb hl=>⟨hb,hl⟩),q3⟩
def PutI(L:List Re)(k v:Dt)(many:Int)(L':List Re)(many':Int):Prop:=if(rB k&&rB v&&kB k)=true then(match L.find? (fun y=>eqO y.k k) with
 | some y=> ∃X Z dv,L=X++y::Z/\(∀x∈X,eqO x.k k=false)/\L'=X++{y with v:=v,dv:=dv}::Z/\many'=many
 | none=> ∃dk dv,L'=L++[⟨k,v,dk,dv,many+1⟩]/\many'=many+1) else L'=L/\many'=many
def RPut(gr:Nat)(L:List Re)(many:Int)(D O:Nat->Prop)(k v:Dt)(w:World)(e:Ending)(w':World):Prop:=e=.returned (.agg (wrongA k v).cs)/\∃L' many' D' O',RefAt w' gr L' many' D' O'/\Moved O w w'/\Grew w D D'/\Grew w O O'/\PutI L k v many L' many'
theorem blk_over1{w:World}{g:Nat}{t:TypeId}{a b:Value}(h:Blk w g t #[a,b])(v:Value):Blk (w.setCells g 1 [v]) g t #[a,v]:=Blk.setL [v] 1 _ _ h
theorem new_last(w:World)(t:TypeId)(cs:Array Value):Blk (w.alloc (.cells cs t)) ((w.alloc (.cells cs t)).heap.size-1) t cs:=by
 rw[World.size_alloc,Nat.add_sub_cancel]
 exact Blk.new w t cs
set_option maxHeartbeats 4000000 in
theorem rput_any{w:World}{gr:Nat}{L:List Re}{many:Int}{D O:Nat->Prop}(hR:RefAt w gr L many D O)(hL:L.length<=200000000000)(hm: -1<=many/\many<=9000000000000000000){d v:Dt}{md mv:Dm}{S T:Nat->Prop}(ho:d.ok)(hvo:v.ok)(hd:d.at w S md)(hv:v.at w T mv)(hS: ∀b,S b->¬O b)(hT: ∀b,T b->¬O b):
    Calls Tryd.prog 46 #[.pointer (some ⟨gr,0,none⟩),.agg (d.cs md),.agg (v.cs mv)] w (RPut gr L many D O d v w):=by
  refine calls_ev (vs:=[.pointer (some ⟨gr,0,none⟩),.agg (d.cs md),.agg (v.cs mv)]) 59 Tryd.func46 e4_body (by kernel_rfl) (by simp) fun a0 h0=> ?_
  unfold e4Body
  refine wp_seq (rg_wp (e4_r0 h0 rfl rfl fun a1 h1=> ?_))
  have hA1:=Blk.new w 31 (d.cs md)
  have hb1:=bl_alloc (Below.refl w.heap.size w) (.cells (d.cs md) 31)
  generalize w.alloc (.cells (d.cs md) 31)=w1 at h1 hA1 hb1 ⊢
  have lo1:w.heap.size<w1.heap.size:=hA1.lt
  have hV2:=Blk.new w1 31 (v.cs mv)
  have hab1:=bl_alloc (Below.refl w1.heap.size w1) (.cells (v.cs mv) 31)
  have hA2:=hA1.below hab1 hA1.lt
  have hb2:=bl_trans hb1 hab1
  generalize w1.alloc (.cells (v.cs mv) 31)=w2 at h1 hV2 hA2 hb2 ⊢
  have lo2:w1.heap.size<w2.heap.size:=hV2.lt
  have hE3:Blk _ w2.heap.size erT (noneE:E9).cs:=Blk.new w2 _ _
  have hab2:=bl_alloc (Below.refl w2.heap.size w2) (.cells (noneE:E9).cs erT)
  have hA3:=hA2.below hab2 hA2.lt
  have hV3:=hV2.below hab2 hV2.lt
  have hb3:=bl_trans hb2 hab2
  show Code.wp _ _ _ a1 (w2.alloc (.cells (noneE:E9).cs erT))
  generalize w2.alloc (.cells (noneE:E9).cs erT)=w3 at hE3 hA3 hV3 hb3 ⊢
  have lo3:w2.heap.size<w3.heap.size:=hE3.lt
  refine wp_seq (rg_wp (e4_r1 (C0:=fun u=>Below w3.heap.size w3 u) (ec:=(wrongA d v).c) (ep:=0) (es:=⟨#[]⟩) (ew:=(wrongA d v).w) (em:=(wrongA d v).m) h1 rfl rfl (dat_whole hA3) (dat_whole hV3) (wrong9_any ho hvo (hd.old hb3) (hv.old hb3)) (fun w4 _=>err_sto (Blk.new w4 _ noneE.cs) (wrongA d v)) fun a2 w4 hb4 h2=> ?_))
  have hG7:=err_over (Blk.new w4 erT noneE.cs) (wrongA d v)
  have hb5:=below_setCells (b:=w4.heap.size) (wrongA d v).cs.toList 0 _ (bl_alloc hb4 (.cells (noneE:E9).cs erT)) hb4.size
  show Code.wp _ _ _ a2 ((w4.alloc (.cells (noneE:E9).cs erT)).setCells w4.heap.size 0 (wrongA d v).cs.toList)
  have lo4:=hb4.size
  generalize (w4.alloc (.cells (noneE:E9).cs erT)).setCells w4.heap.size 0 (wrongA d v).cs.toList=w5 at hG7 hb5 ⊢
  refine wp_seq (rg_wp (e4_r2 (C0:=fun u=>Below w5.heap.size w5 u) h2 rfl (err_load hG7) (none9_any (wrongA d v) w5) fun a3 w6 hb6 h3=> ?_))
  have hb36:=bl_trans hb5 hb6
  have hG:=hG7.below hb6 hG7.lt
  have hA:=hA3.below hb36 hA3.lt
  have hV:=hV3.below hb36 hV3.lt
  have hE:=hE3.below hb36 hE3.lt
  have hb06:=bl_trans hb3 hb36
  have lo6:w3.heap.size<=w6.heap.size:=hb36.size
  rw[wrong_none] at h3
  have fin: ∀{a':Act} {l':List (Nat×Value)} {u:World} {L':List Re} {many':Int} {D' O':Nat->Prop},Blk u w2.heap.size erT (noneE:E9).cs->Moved O w u->RefAt u gr L' many' D' O'->Grew w D D'->Grew w O O'->PutI L d v many L' many'->Sl 59 a' l'->l'.lookup 6=some (.pointer (some ⟨w2.heap.size,0,none⟩))->¬O' w2.heap.size->¬D' w2.heap.size->
      bodyPost Tryd.prog Tryd.f46 (RPut gr L many D O d v w) .ret a' (u.setCells w2.heap.size 0 (wrongA d v).cs.toList):=fun{a' l' u L' many' D' O'} hk hM hR' hD hO hP h' q6 hn hn2=>by
    have k6:=err_over hk (wrongA d v)
    refine ret_c rfl h' q6 (err_load k6) ⟨rfl,L',many',D',O', ?_,hM.set (.inr (by omega)) _ _,hD,hO,hP⟩
    refine hR'.keep (by rw[setCells_size'];exact Nat.le_refl _) fun b hb=>setCells_other _ _ _ fun e=> ?_
    rcases hb with hb | hb
    · exact hn (e ▸ hb)
    · exact hn2 (e ▸ hb)
  cases hn:(rB d&&rB v&&kB d) with
  | false=>
    rw[hn] at h3
    refine wp_seq (wp_seq (rg_wp (e4_r3 h3 rfl fun a4 h4=>wp_cond_true (h4.look 16 rfl) ?_)))
    refine wp_seq (rg_wp (e4_r4 (g7:=w4.heap.size) (ec:=(wrongA d v).c) (ep:=0) (es:=⟨#[]⟩) (ew:=(wrongA d v).w) (em:=(wrongA d v).m) h4 rfl rfl (err_load hG) (err_sto hE (wrongA d v)) fun a5 h5=>wp_ret (then_ret ?_)))
    exact fin hE (Moved.of_below hb06) (hR.old hb06) (Grew.refl _ _) (Grew.refl _ _) (by unfold PutI;rw[hn];exact⟨rfl,rfl⟩) h5 rfl (fun h=>by have:=hR.olt _ h;omega) (fun h=>by have:=hR.dlt _ h;omega)
  | true=>
    rw[hn] at h3
    have hrk:(rB d=true/\rB v=true)/\kB d=true:=by simpa using hn
    refine wp_seq (wp_seq (rg_wp (e4_r3 h3 rfl fun a4 h4=>wpo (h4.look 16 rfl) ?_)))
    refine wp_seq (rg_wp (e4_r5 (C0:=fun u=>Below w6.heap.size w6 u) h4 rfl rfl (dat_whole hA) (at_any (hR.old hb06) (by omega) ho (hd.old hb06) hrk.1.1 hrk.2) fun a5 w7 hb7 h5=> ?_))
    have hb07:=bl_trans hb06 hb7
    have lo7:=hb7.size
    have hA7:=hA.below hb7 hA.lt
    have hV7:=hV.below hb7 hV.lt
    have hG7:=hG.below hb7 hG.lt
    have hE7:=hE.below hb7 hE.lt
    have hR7:=hR.old hb07
    have grl:gr<w.heap.size:=hR.olt _ hR.own
    have hd71:Below w7.heap.size w7 (w7.drewN 1):=below_drewN (Below.refl _ _) 1
    have hgr2: ¬O w2.heap.size:=fun h=>by have:=hR.olt _ h;omega
    have hdr2: ¬D w2.heap.size:=fun h=>by have:=hR.dlt _ h;omega
    obtain⟨s,hBr,hRow,hso⟩:=hR7.row
    cases hf:L.find? (fun y=>eqO y.k d) with
    | some y=>
      obtain⟨X,Z,hXZ,hX,hat,hy⟩:=at_some hf
      rw[hat] at h5
      rw[hXZ] at hRow
      refine wp_seq (wp_seq (rg_wp (e4_r6 (b22:=true) h5 rfl (decide_eq_true (by omega)) fun a6 h6=>wp_cond_true (h6.look 22 rfl) ?_)))
      obtain⟨g,cur,hg,hsd,hsn,hlt,_,hgl,hBg,hgs,hra⟩:=hRow.at (j:=X.length) (x:=y) (by simp)
      have hgO:=hso g hg
      have hgl':=hR.olt _ hgO.1
      have hsv:s.v=.slice (some ⟨g,0,none⟩) s.n s.c:=by unfold S3.v;rw[hsd]
      refine wp_seq (rg_wp (e4_r7 (C:=fun u=>Below w7.heap.size w7 u) (C0:=fun x u=>v.at u (fun b=>w7.heap.size<=b/\b<u.heap.size) x/\Below w7.heap.size w7 u) (dl:=some ⟨g,0,none⟩) (nl:=s.n) (ql:=s.c) (g30:=g) (o30:=X.length*23) h6 rfl rfl rfl hd71 (fun u hu=>one_load (hBr.below hu hBr.lt) Tryd.underlying54 rfl (by rw[<-hsv];rfl)) (fun u hu=>dat_whole (hV7.below hu hV7.lt))
        ((rcopied hvo (hv.old (below_drewN hb07 1))).mono fun e w' ⟨x,q1,q2,q3⟩=>⟨x,q1,q2,bl_trans hd71 q3⟩) (fun _ _ hc=>hc.2) (ix_at X.length rfl Tryd.underlying54 (by kernel_rfl) (by rw[hRow.2];exact hlt) rfl) (fun xv w8 hc=>dat_put (hBg.below hc.2 hgl) (by omega) v xv) fun a7 xv w8 hc8 h7=> ?_))
      obtain⟨hv8,hb8⟩:=hc8
      have hb08:=bl_trans hb07 hb8
      have lo8:=hb8.size
      have hM8:Moved O w (w8.setCells g (X.length*23+11) (v.cs xv).toList):=(Moved.of_below hb08).set (.inl hgO.1) _ _
      have hng: ∀{b:Nat},w.heap.size<=b->b≠g:=fun h=>by omega
      have hG8:=Blk.farL (hng (by omega)) (v.cs xv).toList (X.length*23+11) _ (hG7.below hb8 hG7.lt)
      have hE8:=Blk.farL (hng (by omega)) (v.cs xv).toList (X.length*23+11) _ (hE7.below hb8 hE7.lt)
      have hBr8:=Blk.farL (Ne.symm hgO.2) (v.cs xv).toList (X.length*23+11) _ (hBr.below hb8 hBr.lt)
      have hRow8:=RowE.put (hRow.old hb8) hsd v xv
      have hv9:v.at (w8.setCells g (X.length*23+11) (v.cs xv).toList) (fun b=>w7.heap.size<=b/\b<w8.heap.size) xv:=hv8.keep (fun b hb _=>setCells_other _ _ _ (by omega)) (fun _ h _=>h)
      have hR8:RefAt (w8.setCells g (X.length*23+11) (v.cs xv).toList) gr (X++{y with v:=v,dv:=xv}::Z) many (fun b=>D b\/(w7.heap.size<=b/\b<w8.heap.size)) O:=by
        have old: ∀x∈L,x.k.at (w8.setCells g (X.length*23+11) (v.cs xv).toList) (fun b=>D b\/(w7.heap.size<=b/\b<w8.heap.size)) x.dk/\x.v.at (w8.setCells g (X.length*23+11) (v.cs xv).toList) (fun b=>D b\/(w7.heap.size<=b/\b<w8.heap.size)) x.dv:=fun x hx=>⟨(hR.dat x hx).1.keep (fun b hb hl=>hM8.block b hl (hR.out b hb)) (fun b h _=>.inl h),(hR.dat x hx).2.keep (fun b hb hl=>hM8.block b hl (hR.out b hb)) (fun b h _=>.inl h)⟩
        have hin: ∀x∈X++{y with v:=v,dv:=xv}::Z,x∈L\/x={y with v:=v,dv:=xv}:=fun x hx=>by
          rw[hXZ]
          simp only[List.mem_append,List.mem_cons] at hx ⊢
          rcases hx with hx | hx | hx
          · exact .inl (.inl hx)
          · exact .inr hx
          · exact .inl (.inr (.inr hx))
        have hyL:y∈L:=by rw[hXZ];simp
        exact { row := ⟨s, hBr8, hRow8, hso⟩, own := hR.own
                dat:=fun x hx=>by
                  rcases hin x hx with q | rfl
                  · exact old x q
                  · exact⟨(old y hyL).1,hv9.keep (fun _ _ _=>rfl) (fun b h _=>.inr h)⟩
                oks:=fun x hx=>by
                  rcases hin x hx with q | rfl
                  · exact hR.oks x q
                  · exact⟨⟨(hR.oks y hyL).1.1,hvo⟩,(hR.oks y hyL).2.1,hrk.1.2⟩
                dlt:=fun b hb=>by
                  rw[setCells_size']
                  rcases hb with hb | hb
                  · exact Nat.lt_of_lt_of_le (hR.dlt b hb) hb08.size
                  · exact hb.2
                olt:=fun b hb=>Nat.lt_of_lt_of_le (hR.olt b hb) hM8.size
                out:=fun b hb hh=>by
                  rcases hb with hb | hb
                  · exact hR.out b hb hh
                  · have:=hR.olt b hh
                    have:=hb07.size
                    omega}
      show Code.wp _ _ _ a7 (w8.setCells g (X.length*23+11) (v.cs xv).toList)
      generalize w8.setCells g (X.length*23+11) (v.cs xv).toList=u8 at hM8 hG8 hE8 hR8 ⊢
      refine wp_seq (rg_wp (e4_r8 (g7:=w4.heap.size) (ec:=(wrongA d v).c) (ep:=0) (es:=⟨#[]⟩) (ew:=(wrongA d v).w) (em:=(wrongA d v).m) h7 rfl rfl (err_load hG8) (err_sto hE8 (wrongA d v)) fun a8 h8=>wp_ret (then_ret ?_)))
      refine fin hE8 hM8 hR8 ⟨fun _ h=>.inl h,fun b h=>h.imp_right fun h=>by have:=hb07.size;omega⟩ (Grew.refl _ _) ?_ h8 rfl hgr2 (fun h=>h.elim hdr2 fun h=>by omega)
      unfold PutI
      rw[hn,if_pos rfl,hf]
      exact⟨X,Z,xv,hXZ,hX,rfl,rfl⟩
    | none=>
      rw[at_none hf] at h5
      refine wp_seq (wp_seq (rg_wp (e4_r6 (b22:=false) h5 rfl (decide_eq_false (by omega)) fun a6 h6=>wpo (h6.look 22 rfl) ?_)))
      refine wp_seq (rg_wp (e4_r9 h6 rfl (one_load hBr Tryd.underlying3 rfl rfl) (by omega) (sts1 (there_bk hBr (by show 1+1<=2;omega)) (by kernel_rfl) rfl) fun a7 h7=> ?_))
      have lo07:=hb07.size
      have hBr8:=blk_over1 hBr (.int .i64 (many+1))
      have hM8:Moved O w (w7.setCells gr 1 [.int .i64 (many+1)]):=(Moved.of_below hb07).set (.inl hR.own) _ _
      have hng: ∀{b:Nat},w.heap.size<=b->b≠gr:=fun h=>by omega
      have hA8:=Blk.farL (hng (Nat.le_refl _)) [.int .i64 (many+1)] 1 _ hA7
      have hV8:=Blk.farL (hng (Nat.le_of_lt lo1)) [.int .i64 (many+1)] 1 _ hV7
      have hG8:=Blk.farL (g:=w4.heap.size) (hng (by omega)) [.int .i64 (many+1)] 1 _ hG7
      have hE8:=Blk.farL (g:=w2.heap.size) (hng (by omega)) [.int .i64 (many+1)] 1 _ hE7
      have hRow8:RowE (w7.setCells gr 1 [.int .i64 (many+1)]) 0 s L:=hRow.keep fun g hg=>setCells_other _ _ _ (hso g hg).2
      have hd8:d.at (w7.setCells gr 1 [.int .i64 (many+1)]) S md:=hd.keep (fun b hb hl=>hM8.block b hl (hS b hb)) (fun _ h _=>h)
      have hv8:v.at (w7.setCells gr 1 [.int .i64 (many+1)]) T mv:=hv.keep (fun b hb hl=>hM8.block b hl (hT b hb)) (fun _ h _=>h)
      have lo8:w7.heap.size<=(w7.setCells gr 1 [.int .i64 (many+1)]).heap.size:=by rw[setCells_size'];exact Nat.le_refl _
      show Code.wp _ _ _ a7 (w7.setCells gr 1 [.int .i64 (many+1)])
      generalize w7.setCells gr 1 [.int .i64 (many+1)]=w8 at hBr8 hM8 hA8 hV8 hG8 hE8 hRow8 hd8 hv8 lo8 ⊢
      have hd81:Below w8.heap.size w8 (w8.drewN 1):=below_drewN (Below.refl _ _) 1
      have hCb: ∀u,Below w8.heap.size w8 u->Blk u gr rfT #[s.v,.int .i64 (many+1)]/\Blk u w.heap.size 31 (d.cs md)/\Blk u w1.heap.size 31 (v.cs mv):=fun u hu=>⟨hBr8.below hu hBr8.lt,hA8.below hu hA8.lt,hV8.below hu hV8.lt⟩
      have hgn: ∀{u u':World} {L':List Re} {s':S3},Below w8.heap.size w8 u->AppE u 0 s L' s' u'->Moved O w8 u':=fun{u u' L' s'} hu hc=>⟨Nat.le_trans hu.size hc.2.1.size,hc.2.1.os.trans hu.os,hc.2.1.tape.trans hu.tape,hc.2.1.output.trans hu.output,fun b hb hn=>(hc.2.1.block b (Nat.lt_of_lt_of_le hb hu.size) (fun e=>hn (hso b e.symm).1)).trans (hu.block b hb)⟩
      have hgC: ∀{u u':World} {L':List Re} {s':S3},Below w8.heap.size w8 u->AppE u 0 s L' s' u'->Blk u' gr rfT #[s.v,.int .i64 (many+1)]/\Blk u' w.heap.size 31 (d.cs md)/\Blk u' w1.heap.size 31 (v.cs mv):=fun{u u' L' s'} hu hc=>by
        have hm:=hgn hu hc
        refine⟨(hc.2.1.block gr (Nat.lt_of_lt_of_le (by omega) hu.size) (fun e=>(hso gr e.symm).2 rfl)).trans (hCb u hu).1,Blk.moved hA8 hm (fun h=>by have:=hR.olt _ h;omega),Blk.moved hV8 hm (fun h=>by have:=hR.olt _ h;omega)⟩
      refine wp_seq (rg_wp (e4_r10 (C:=fun u=>Blk u gr rfT #[s.v,.int .i64 (many+1)]/\Blk u w.heap.size 31 (d.cs md)/\Blk u w1.heap.size 31 (v.cs mv)) (dl:=s.d) (nl:=s.n) (ql:=s.c) (many:=many+1)
        (C0:=fun x u=>d.at u (fun b=>w8.heap.size<=b/\b<u.heap.size) x/\Below w8.heap.size w8 u) (C1:=fun u x u'=>(v.at u' (fun b=>u.heap.size<=b/\b<u'.heap.size) x/\Below u.heap.size u u')/\Below w8.heap.size w8 u') (C2:=fun u s' u'=> ∀x:Re,Blk u (u.heap.size-1) reT x.cs->AppE u 0 s (L++[x]) s' u')
        h7 rfl rfl rfl (hCb _ hd81) (fun u hu=>one_load hu.1 Tryd.underlying54 rfl rfl) (fun u hu=>dat_whole hu.2.1) (fun u hu=>dat_whole hu.2.2) (fun u hu=>one_load hu.1 Tryd.underlying3 rfl rfl)
        ((rcopied ho (hd8.old hd81)).mono fun e w' ⟨x,q1,q2,q3⟩=>⟨x,q1,q2,bl_trans hd81 q3⟩) (fun _ _ hc=>hCb _ hc.2) (fun xk u1 hc=>(rcopied hvo (hv8.old hc.2)).mono fun e w' ⟨x,q1,q2,q3⟩=>⟨x,q1,⟨q2,q3⟩,bl_trans hc.2 q3⟩) (fun _ _ _ _ _ hc=>hCb _ hc.2) (fun _ _ _ _ u2 hc=>hCb _ (bl_alloc hc.2 _))
        (fun xk u1 h1 xv u2 h2 ty=> ?k10) (fun xk u1 h1 xv u2 h2 s3 u3 h3=>hgC (bl_alloc h2.2 _) (h3 ⟨d,v,xk,xv,many+1⟩ ?kb)) (fun xk u1 h1 xv u2 h2 s3 u3 h3=>sts1 (there_bk (hgC (bl_alloc h2.2 _) (h3 ⟨d,v,xk,xv,many+1⟩ ?kb2)).1 (by show 0+1<=2;omega)) (by kernel_rfl) rfl) fun a8 xk u1 xv u2 s3 u3 hc1 hc2 hc3 h8=> ?_))
      case k10=>
        have hx:Blk (u2.alloc (.cells (⟨d,v,xk,xv,many+1⟩:Re).cs reT)) u2.heap.size reT (⟨d,v,xk,xv,many+1⟩:Re).cs:=Blk.new u2 _ _
        obtain⟨s',u',q1,q2⟩:=app_re (M:=[⟨d,v,xk,xv,many+1⟩]) (B:=0) (hRow8.old (bl_alloc h2.2 (.cells (⟨d,v,xk,xv,many+1⟩:Re).cs reT))) (Nat.zero_le _) (by simp only[List.length_cons,List.length_nil];omega) (d:=some ⟨u2.heap.size,0,none⟩) (n:=1) (q:=1) ⟨rfl,.inr ⟨_,rfl,fun j u hu=>by
          rw[addr_add,Nat.zero_add,hx.cell,<-Array.getElem?_toList]
          simpa using hu⟩⟩ ty
        refine⟨s',u',q1,fun x hxb=> ?_⟩
        have e:x.cs=(⟨d,v,xk,xv,many+1⟩:Re).cs:=by
          have h1:Blk (u2.alloc (.cells (⟨d,v,xk,xv,many+1⟩:Re).cs reT)) (u2.heap.size+1-1) reT x.cs:=by
            have:=hxb
            rw[World.size_alloc] at this
            exact this
          rw[Nat.add_sub_cancel] at h1
          unfold Blk at h1 hx
          rw[h1] at hx
          injection hx with hx
          injection hx
        have hl:(L++[x]).length=(L++[(⟨d,v,xk,xv,many+1⟩:Re)]).length:=by rw[List.length_append,List.length_append];rfl
        refine⟨⟨?_,q2.1.2.trans hl.symm⟩,q2.2⟩
        have:=q2.1.1
        rw[List.flatMap_append,List.flatMap_singleton,<-hl] at this
        rw[List.flatMap_append,List.flatMap_singleton,e]
        exact this
      case kb=>exact new_last u2 reT _
      case kb2=>exact new_last u2 reT _
      have hc4:=hc3 ⟨d,v,xk,xv,many+1⟩ (new_last u2 reT (⟨d,v,xk,xv,many+1⟩:Re).cs)
      have hb82:=bl_alloc hc2.2 (.cells (⟨d,v,xk,xv,many+1⟩:Re).cs reT)
      have hM38:=hgn hb82 hc4
      have hBr3:=blk_over (hgC hb82 hc4).1 [s3.v] rfl
      have hM3:Moved O w u3:=hM8.trans (hM38.more fun _ h=>.inl h)
      have hM10:Moved O w (u3.setCells gr 0 [s3.v]):=hM3.set (.inl hR.own) _ _
      have lw8:w.heap.size<=w8.heap.size:=hM8.size
      have l12:=hc2.1.2.size
      have l81:=hc1.2.size
      have l23:u2.heap.size<u3.heap.size:=Nat.lt_of_lt_of_le (by rw[World.size_alloc];omega) hc4.2.1.size
      have hs3: ∀g,s3.v.ownBlock=some g->(O g/\g≠gr/\g<w.heap.size)\/(u2.heap.size<g/\g<u3.heap.size):=fun g hg=>by
        rcases hc4.2.2 with q | q
        · rw[q] at hg
          exact .inl ⟨(hso g hg).1,(hso g hg).2,hR.olt g (hso g hg).1⟩
        · rw[q,World.size_alloc] at hg
          injection hg with hg
          have:=(row_block hc4.1.1 q).2
          rw[World.size_alloc] at this
          exact .inr ⟨by omega,by omega⟩
      have keepO: ∀{b:Nat},b<u2.heap.size->¬O b->w8.heap.size<=b->(u3.setCells gr 0 [s3.v]).heap[b]? =u2.heap[b]? :=fun{b} hb hn h8=>by
        refine(setCells_other _ _ _ (fun e=>hn (by rw[e];exact hR.own))).trans ((hc4.2.1.block b (by rw[World.size_alloc];omega) (fun e=>hn (hso b e.symm).1)).trans ?_)
        exact(bl_alloc (Below.refl u2.heap.size u2) (.cells (⟨d,v,xk,xv,many+1⟩:Re).cs reT)).block b hb
      have hnO: ∀{b:Nat},w8.heap.size<=b->¬O b:=fun h hh=>by have:=hR.olt _ hh;omega
      have hkD:d.at (u3.setCells gr 0 [s3.v]) (fun b=>D b\/(w8.heap.size<=b/\b<u2.heap.size)) xk:=hc1.1.keep (fun b hb hl=>(keepO (by omega) (hnO hb.1) hb.1).trans (hc2.1.2.block b hl)) (fun b hb _=>.inr ⟨hb.1,by omega⟩)
      have hvD:v.at (u3.setCells gr 0 [s3.v]) (fun b=>D b\/(w8.heap.size<=b/\b<u2.heap.size)) xv:=hc2.1.1.keep (fun b hb hl=>keepO hl (hnO (by omega)) (by omega)) (fun b hb _=>.inr ⟨by omega,hb.2⟩)
      have hRow10:RowE (u3.setCells gr 0 [s3.v]) 0 s3 (L++[⟨d,v,xk,xv,many+1⟩]):=hc4.1.keep fun g hg=>setCells_other _ _ _ (by
        rcases hs3 g hg with q | q
        · exact q.2.1
        · omega)
      have hR10:RefAt (u3.setCells gr 0 [s3.v]) gr (L++[⟨d,v,xk,xv,many+1⟩]) (many+1) (fun b=>D b\/(w8.heap.size<=b/\b<u2.heap.size)) (fun b=>O b\/s3.v.ownBlock=some b):=
        { row := ⟨s3, hBr3, hRow10, fun g hg => ⟨.inr hg, by
            rcases hs3 g hg with q | q
            · exact q.2.1
            · omega⟩⟩
          own:=.inl hR.own
          dat:=fun x hx=>by
            rcases List.mem_append.1 hx with q | q
            · exact⟨(hR.dat x q).1.keep (fun b hb hl=>hM10.block b hl (hR.out b hb)) (fun b h _=>.inl h),(hR.dat x q).2.keep (fun b hb hl=>hM10.block b hl (hR.out b hb)) (fun b h _=>.inl h)⟩
            · rw[List.mem_singleton.1 q]
              exact⟨hkD,hvD⟩
          oks:=fun x hx=>by
            rcases List.mem_append.1 hx with q | q
            · exact hR.oks x q
            · rw[List.mem_singleton.1 q]
              exact⟨⟨ho,hvo⟩,⟨hrk.1.1,hrk.2⟩,hrk.1.2⟩
          dlt:=fun b hb=>by
            rw[setCells_size']
            rcases hb with hb | hb
            · exact Nat.lt_of_lt_of_le (hR.dlt b hb) hM3.size
            · omega
          olt:=fun b hb=>by
            rw[setCells_size']
            rcases hb with hb | hb
            · exact Nat.lt_of_lt_of_le (hR.olt b hb) hM3.size
            · rcases hs3 b hb with q | q
              · exact Nat.lt_of_lt_of_le q.2.2 hM3.size
              · exact q.2
          out:=fun b hb hh=>by
            rcases hh with hh | hh
            · rcases hb with hb | hb
              · exact hR.out b hb hh
              · exact hnO hb.1 hh
            · rcases hs3 b hh with q | q
              · rcases hb with hb | hb
                · exact hR.out b hb q.1
                · omega
              · rcases hb with hb | hb
                · have:=hR.dlt b hb
                  omega
                · omega}
      have l78:w.heap.size<=w2.heap.size/\w2.heap.size<w8.heap.size:=⟨by omega,by omega⟩
      have hE10:Blk (u3.setCells gr 0 [s3.v]) w2.heap.size erT (noneE:E9).cs:=Blk.farL (hng (by omega)) [s3.v] 0 _ (hE8.moved hM38 (fun h=>by have:=hR.olt _ h;omega))
      have hG10:Blk (u3.setCells gr 0 [s3.v]) w4.heap.size erT (wrongA d v).cs:=Blk.farL (hng (by omega)) [s3.v] 0 _ (hG8.moved hM38 (fun h=>by have:=hR.olt _ h;omega))
      show Code.wp _ _ _ a8 (u3.setCells gr 0 [s3.v])
      generalize u3.setCells gr 0 [s3.v]=u9 at hM10 hR10 hE10 hG10 ⊢
      refine wp_seq (rg_wp (e4_r11 (g7:=w4.heap.size) (ec:=(wrongA d v).c) (ep:=0) (es:=⟨#[]⟩) (ew:=(wrongA d v).w) (em:=(wrongA d v).m) h8 rfl rfl (err_load hG10) (err_sto hE10 (wrongA d v)) fun a9 h9=>wp_ret ?_))
      refine fin hE10 hM10 hR10 ⟨fun _ h=>.inl h,fun b h=>h.imp_right fun h=>by omega⟩ ⟨fun _ h=>.inl h,fun b h=> ?_⟩ ?_ h9 rfl (fun h=> ?_) (fun h=>h.elim hdr2 fun h=>by omega)
      · rcases h with h | h
        · exact .inl h
        · rcases hs3 b h with q | q
          · exact .inl q.1
          · exact .inr (by omega)
      · unfold PutI
        rw[hn,if_pos rfl,hf]
        exact⟨xk,xv,rfl,rfl⟩
      · rcases h with h | h
        · exact hgr2 h
        · rcases hs3 _ h with q | q
          · exact hgr2 q.1
          · omega
end Go.Proofs.YtlhfickniegooaaDoor

namespace Go.Proofs.YtlhfickniegooaaDoor
open Go.RowKit
set_option maxRecDepth 100000
def TellV(w:World)(v:Value)(e:E9):Prop:=(e=noneE/\v=.nilIface)\/(e=⟨1,⟨#[]⟩,⟨#[]⟩⟩/\∃g,v=.iface 95 (.pointer (some ⟨g,0,none⟩))/\Blk w g 98 #[.int .i64 1,.int .i64 0,.string ⟨#[]⟩])\/
 ∃m,e=⟨0,keyW,m⟩/\∃g,v=.iface 68 (.pointer (some ⟨g,0,none⟩))/\Blk w g 71 #[.string keyW,.string m]
theorem TellV.old{w w':World}{v:Value}{e:E9}(h:TellV w v e)(hb:Below w.heap.size w w'):TellV w' v e:=by
 rcases h with h | ⟨h1,g,h2,h3⟩ | ⟨m,h1,g,h2,h3⟩
 ·exact .inl h
 ·exact .inr (.inl ⟨h1,g,h2,h3.below hb h3.lt⟩)
 ·exact .inr (.inr ⟨m,h1,g,h2,h3.below hb h3.lt⟩)
theorem neq_w(g:Nat)(w:World):(binOp .neq 95 (.pointer (some ⟨g,0,none⟩)) (.pointer none)).run Tryd.prog w=.ok (.bool true) w:=by kernel_rfl
theorem neq_f(g:Nat)(w:World):(binOp .neq 68 (.pointer (some ⟨g,0,none⟩)) (.pointer none)).run Tryd.prog w=.ok (.bool true) w:=by kernel_rfl
theorem ast_ww(g:Nat)(w:World):(Instr.typeAssert (.iface 95 (.pointer (some ⟨g,0,none⟩))) 34 95 true).run Tryd.prog w=.ok (.tuple #[.pointer (some (⟨g,0,none⟩)),.bool true]) w:=by kernel_rfl
theorem ast_fw(g:Nat)(w:World):(Instr.typeAssert (.iface 68 (.pointer (some ⟨g,0,none⟩))) 34 95 true).run Tryd.prog w=.ok (.tuple #[.pointer none,.bool false]) w:=by kernel_rfl
theorem ast_ff(g:Nat)(w:World):(Instr.typeAssert (.iface 68 (.pointer (some ⟨g,0,none⟩))) 34 68 true).run Tryd.prog w=.ok (.tuple #[.pointer (some (⟨g,0,none⟩)),.bool true]) w:=by kernel_rfl
theorem eql_ww(w:World):(binOp .eql 98 (.agg #[.int .i64 1,.int .i64 0,.string ⟨#[]⟩]) (.agg #[.int .i64 1,.int .i64 0,.string ⟨#[]⟩])).run Tryd.prog w=.ok (.bool true) w:=by kernel_rfl
theorem eql_ff(a b:ByteArray)(w:World):(binOp .eql 71 (.agg #[.string a,.string b]) (.agg #[.string a,.string b])).run Tryd.prog w=.ok (.bool true) w:=by
 simp[go_sem,Tryd.underlying71]
theorem told_any{w:World}{v:Value}{e:E9}(h:TellV w v e):Calls Tryd.prog 45 #[v,.agg e.cs] w fun r w'=>r=.returned (.bool true)/\Below w.heap.size w w':=by
 refine calls_ev (vs:=[v,.agg e.cs]) 52 Tryd.func45 to_body (by kernel_rfl) (by simp) fun a0 h0=> ?_
 unfold toBody
 refine wp_seq (rg_wp (to_r0 h0 rfl fun a1 h1=> ?_))
 have hE1:=Blk.new w erT e.cs
 have hb1:=bl_alloc (Below.refl w.heap.size w) (.cells e.cs erT)
 have h1t:=h.old hb1
 generalize w.alloc (.cells e.cs erT)=w1 at hE1 hb1 h1t ⊢
 refine wp_seq (rg_wp (to_r1 h1 rfl (err_load hE1) (none9_any e w1) fun a2 w2 hb2 h2=> ?_))
 have hb02:=bl_trans hb1 hb2
 have hE2:=hE1.below hb2 hE1.lt
 have h2t:=h1t.old hb2
 refine wp_seq (wp_seq (rg_wp (to_r2 h2 rfl fun a3 h3=> ?_)))
 rcases h2t with⟨rfl,rfl⟩ | ⟨rfl,g,rfl,hB⟩ | ⟨m,rfl,g,rfl,hB⟩
 ·refine wp_cond_true (h3.look 10 rfl) (wp_seq (rg_wp (to_r3 h3 rfl fun a4 h4=>wp_ret (then_ret ?_))))
  exact ret1 rfl h4 rfl ⟨rfl,hb02⟩
 ·refine wpo (h3.look 10 rfl) ?_
  refine wp_seq (wp_seq (rg_wp (to_r4w h3 rfl fun a4 h4=> ?_)))
  refine wp_block (wp_seq (rg_wp (to_r5w h4 rfl (fun w=>ast_ww g w) fun a5 h5=>wp_cond_true (h5.look 15 rfl) ?_)))
  refine wp_seq (rg_wp (to_r6 h5 rfl fun a6 h6=>wp_seq (rg_wp (to_r7_tt h6 rfl rfl (fun w=>neq_w g w) (ldsA Tryd.underlying98 rfl (by kernel_rfl) (cs:=[.int .i64 1,.int .i64 0,.string ⟨#[]⟩]) (range_of hB 0 3 rfl)) (ldsA Tryd.underlying98 rfl (by kernel_rfl) (cs:=[.int .i64 1,.int .i64 0,.string ⟨#[]⟩]) (range_of hE2 0 3 rfl)) (fun w=>eql_ww w) (one_load hE2 Tryd.underlying96 rfl rfl) rfl fun a7 mm h7=>wp_ret ?_))))
  repeat (first | with_reducible refine then_ret ?_ | with_reducible refine block_ret ?_)
  exact ret1 rfl h7 rfl ⟨rfl,below_drewN hb02 mm⟩
 ·have hn:(⟨0,keyW,m⟩:E9).none=false:=by
   unfold E9.none keyW
   simp
  rw[hn] at h3
  refine wpo (h3.look 10 rfl) ?_
  refine wp_seq (wp_seq (rg_wp (to_r4f h3 rfl fun a4 h4=> ?_)))
  refine wp_block (wp_seq (rg_wp (to_r5f h4 rfl (fun w=>ast_fw g w) fun a5 h5=>wp_cond_false (h5.look 15 rfl) ?_)))
  refine wp_seq (rg_wp (to_r8f h5 rfl (fun w=>ast_ff g w) fun a6 h6=>wp_cond_true (h6.look 34 rfl) ?_))
  refine wp_seq (rg_wp (to_r9 h6 rfl fun a7 h7=>wp_seq (rg_wp (to_r10_tt h7 rfl rfl (fun w=>neq_f g w) (ldsA Tryd.underlying71 rfl (by kernel_rfl) (cs:=[.string keyW,.string m]) (range_of hB 0 2 rfl)) (ldsA Tryd.underlying71 rfl (by kernel_rfl) (cs:=[.string keyW,.string m]) (range_of hE2 3 2 rfl)) (fun w=>eql_ff keyW m w) (one_load hE2 Tryd.underlying96 rfl rfl) rfl fun a8 mm h8=>wp_ret ?_))))
  repeat (first | with_reducible refine then_ret ?_ | with_reducible refine block_ret ?_)
  exact ret1 rfl h8 rfl ⟨rfl,below_drewN hb02 mm⟩
theorem right_iff{h:Hd}{k:Fo}:rightB h k=true↔headB h k.len=true/\okF k=true/\1+cntF k<=100:=by
 unfold rightB rightD
 rw[if_neg (by omega)]
 have:=(rightF_ok k (100-1) (by omega)).1
 by_cases hh:headB h k.len=false
 ·rw[if_pos hh,hh]
  simp
 ·have hh':headB h k.len=true:=by simpa using hh
  rw[if_neg hh,this,hh']
  simp
  omega
theorem cnt_get: ∀(f:Fo) (i:Nat) (a:Hd) (d:Fo),f.get i=some (a,d)->okF f=true->(headB a d.len=true/\okF d=true)/\1+cntF d<=cntF f
 | .nil,_,_,_,e,_=>by simp[Fo.get] at e
 | .cons h k r,0,a,d,e,ho=>by
  simp only[Fo.get,Option.some.injEq,Prod.mk.injEq] at e
  obtain⟨rfl,rfl⟩:=e
  simp only[okF,Bool.and_eq_true] at ho
  exact⟨⟨ho.1.1,ho.1.2⟩,by rw[cntF];omega⟩
 | .cons h k r,i+1,a,d,e,ho=>by
  simp only[okF,Bool.and_eq_true] at ho
  obtain⟨h1,h2⟩:=cnt_get r i a d e ho.2
  exact⟨h1,by rw[cntF];omega⟩
theorem right_get{h:Hd}{k:Fo}{i:Nat}{a:Hd}{d:Fo}(hr:rightB h k=true)(e:k.get i=some (a,d)):rightB a d=true:=by
 obtain⟨_,h2,h3⟩:=right_iff.1 hr
 obtain⟨⟨h4,h5⟩,h6⟩:=cnt_get k i a d e h2
 exact right_iff.2 ⟨h4,h5,by omega⟩
end Go.Proofs.YtlhfickniegooaaDoor

namespace Go.Proofs.YtlhfickniegooaaDoor
open Go.RowKit Go.Sort
set_option maxRecDepth 100000
def LNb(w:World)(lo m:Nat)(h:Hd)(n:Nat)(x:Dm)(R:Nat->Nat->Prop):Prop:=
  ∃ p b q, x = ⟨some ⟨p, 0, none⟩, h.path.length + 2, some ⟨b, 0, none⟩, n + 2⟩ ∧ (lo ≤ p ∧ p < b ∧ b < q ∧ q ≤ m) ∧
    ((∃cp,Blk w p 3 cp/\cp.size=h.path.length+2)/\(∀(j:Nat) (y:Int),h.path[j]? =some y->w.cell? ⟨p,j,none⟩=some (.int .i64 y))/\w.cell? ⟨p,h.path.length,none⟩=some (.int .i64 (-71))/\w.cell? ⟨p,h.path.length+1,none⟩=some (.int .i64 (-72)))/\
    ((∃cb,Blk w b 31 cb/\cb.size=(n+2)*11)/\w.cell? ⟨b,n*11+2,none⟩=some (.int .i64 71)/\w.cell? ⟨b,(n+1)*11+2,none⟩=some (.int .i64 72))/\R q b
def LNF(w:World):Nat->Nat->Nat->Nat->Fo->Prop
 | _,_,_,_,.nil=>True
 | lo,hi,b,o,.cons h k r=> ∃m x,m<=hi/\CellsAt w b o (h.cells x.pa x.pc x.ia k.len x.ic)/\LNb w lo m h k.len x (fun q b'=>LNF w (b'+1) q b' 0 k)/\LNF w m hi b (o+11) r
def LN(w:World)(lo hi:Nat)(h:Hd)(k:Fo)(x:Dm):Prop:=LNb w lo hi h k.len x (fun q b'=>LNF w (b'+1) q b' 0 k)
theorem LNF_cons{w:World}{lo hi b o:Nat}{h:Hd}{k r:Fo}:LNF w lo hi b o (.cons h k r)↔∃m x,m<=hi/\CellsAt w b o (h.cells x.pa x.pc x.ia k.len x.ic)/\LN w lo m h k x/\LNF w m hi b (o+11) r:=Iff.rfl
theorem LN.lt{w:World}{lo hi:Nat}{h:Hd}{k:Fo}{x:Dm}(d:LN w lo hi h k x):lo<hi:=by
 obtain⟨p,b,q,_,h1,_⟩:=d
 omega
theorem cell_same{w w':World}{b o:Nat}(h:w'.heap[b]? =w.heap[b]?):w'.cell? ⟨b,o,none⟩=w.cell? ⟨b,o,none⟩:=World.cell?_of_block (w:=w) h
theorem LNb.keep{w w':World}{lo m:Nat}{h:Hd}{n:Nat}{x:Dm}{R R':Nat->Nat->Prop}(d:LNb w lo m h n x R)(hk: ∀y,lo<=y->y<m->w'.heap[y]? =w.heap[y]?)(hR: ∀q b,lo<=b->b<q->q<=m->R q b->R' q b):LNb w' lo m h n x R':=by
 obtain⟨p,b,q,e,hl,⟨⟨cp,h1,h2⟩,h3,h4,h5⟩,⟨⟨cb,h6,h7⟩,h8,h9⟩,hr⟩:=d
 have kp:=hk p (by omega) (by omega)
 have kb:=hk b (by omega) (by omega)
 exact⟨p,b,q,e,hl,⟨⟨cp,kp.trans h1,h2⟩,fun j y hy=>(cell_same kp).trans (h3 j y hy),(cell_same kp).trans h4,(cell_same kp).trans h5⟩,⟨⟨cb,kb.trans h6,h7⟩,(cell_same kb).trans h8,(cell_same kb).trans h9⟩,hR q b (by omega) (by omega) (by omega) hr⟩
theorem LNF.keep{w w':World}: ∀(f:Fo) (lo hi b o:Nat),LNF w lo hi b o f->(∀y,lo<=y->y<hi->w'.heap[y]? =w.heap[y]?)->(∀n v,o<=n->w.cell? ⟨b,n,none⟩=some v->w'.cell? ⟨b,n,none⟩=some v)->LNF w' lo hi b o f
 | .nil,_,_,_,_,_,_,_=>trivial
 | .cons h k r,lo,hi,b,o,⟨m,x,hm,hc,hd,h6⟩,hk,hb=>by
  have hlm:lo<m:=LN.lt hd
  refine⟨m,x,hm,fun j v hv=>hb _ _ (by omega) (hc j v hv),LNb.keep hd (fun y h1 h2=>hk y h1 (by omega)) (fun q b' h1 h2 h3 h5=> ?_),LNF.keep r m hi b (o+11) h6 (fun y hy hz=>hk y (by omega) hz) (fun n v hn=>hb n v (by omega))⟩
  exact LNF.keep k (b'+1) q b' 0 h5 (fun y hy hz=>hk y (by omega) (by omega)) (fun n v _ hn=>(cell_same (hk b' h1 (by omega))).trans hn)
theorem LN.keep{w w':World}{lo hi:Nat}{h:Hd}{k:Fo}{x:Dm}(d:LN w lo hi h k x)(hk: ∀y,lo<=y->y<hi->w'.heap[y]? =w.heap[y]?):LN w' lo hi h k x:=
 LNb.keep d hk fun q b' h1 h2 h3 h5=>LNF.keep k (b'+1) q b' 0 h5 (fun y hy hz=>hk y (by omega) (by omega)) (fun n v _ hn=>(cell_same (hk b' h1 (by omega))).trans hn)
theorem LNb.mono{w:World}{lo hi lo' hi':Nat}{h:Hd}{n:Nat}{x:Dm}{R:Nat->Nat->Prop}(d:LNb w lo hi h n x R)(h1:lo'<=lo)(h2:hi<=hi'):LNb w lo' hi' h n x R:=by
 obtain⟨p,b,q,e,hl,r⟩:=d
 exact⟨p,b,q,e,by omega,r⟩
theorem LNF.of_get{w:World}: ∀(f:Fo) (b o hi:Nat) (ms:Nat->Nat),(∀i a d,f.get i=some (a,d)->ms (i+1)<=hi/\∃x:Dm,CellsAt w b (o+i*11) (a.cells x.pa x.pc x.ia d.len x.ic)/\LN w (ms i) (ms (i+1)) a d x)->LNF w (ms 0) hi b o f
 | .nil,_,_,_,_,_=>trivial
 | .cons h k r,b,o,hi,ms,hg=>by
  obtain⟨h0,x,h1,h2⟩:=hg 0 h k rfl
  rw[LNF_cons]
  refine⟨ms 1,x,h0,by simpa using h1,h2,LNF.of_get r b (o+11) hi (fun i=>ms (i+1)) fun i a d e=> ?_⟩
  have:=hg (i+1) a d e
  rwa [show o+(i+1)*11=o+11+i*11 by omega] at this
theorem LNb.path{w:World}{lo m:Nat}{h:Hd}{n:Nat}{x:Dm}{R:Nat->Nat->Prop}(d:LNb w lo m h n x R):PathAt w (fun y=>lo<=y/\y<m) x.pa h.path:=by
 obtain⟨p,b,q,rfl,hl,⟨_,h3,_⟩,_⟩:=d
 exact .inr ⟨p,0,rfl,⟨by omega,by omega⟩,fun j y hy=>by rw[Nat.zero_add];exact h3 j y hy⟩
theorem FoAt.wide{w:World}{S T:Nat->Prop}(hST: ∀b,S b->T b): ∀(f:Fo) (b o:Nat),FoAt w S b o f->FoAt w T b o f
 | .nil,_,_,_=>trivial
 | .cons h k r,b,o,⟨⟨pa,pc,ia,ic,h1,h2,h3,h4,h5,h6,h7⟩,h8⟩=>by
  refine⟨⟨pa,pc,ia,ic,h1,h2.wider hST,h3,h4,h5,h6, ?_⟩,FoAt.wide hST r b (o+11) h8⟩
  rcases h7 with h7 | ⟨b',o',g1,g2,g3⟩
  ·exact .inl h7
  ·exact .inr ⟨b',o',g1,hST _ g2,FoAt.wide hST k b' o' g3⟩
theorem LNF.dat{w:World}: ∀(f:Fo) (lo hi b o:Nat),f.ok->LNF w lo hi b o f->FoAt w (fun y=>lo<=y/\y<hi) b o f
 | .nil,_,_,_,_,_,_=>trivial
 | .cons h k r,lo,hi,b,o,ho,hf=>by
  rw[LNF_cons] at hf
  obtain⟨m,x,hm,hc,hd,h6⟩:=hf
  have hlm:=hd.lt
  have hp:=LNb.path hd
  obtain⟨p,b',q,rfl,hl,_,_,hr⟩:=hd
  have hpl:=ho.1.path
  have hkl:=ho.2.2.2
  refine⟨⟨_,_,_,_,hc,hp.wider (fun y hy=>⟨hy.1,by omega⟩),by show _<=_+2;omega,capOk.some (by show _+2<=_;omega),by show _<=_+2;omega,capOk.some (by show _+2<=_;omega),.inr ⟨b',0,rfl,⟨by omega,by omega⟩, ?_⟩⟩, ?_⟩
  ·exact FoAt.wide (fun y hy=>⟨by omega,by omega⟩) k b' 0 (LNF.dat k (b'+1) q b' 0 ho.2.1 hr)
  ·exact FoAt.wide (fun y hy=>⟨by omega,by omega⟩) r b (o+11) (LNF.dat r m hi b (o+11) ho.2.2.1 h6)
theorem LN.dat{w:World}{lo hi:Nat}{d:Dt}{x:Dm}(hl:LN w lo hi d.h d.k x)(ho:d.ok):d.at w (fun y=>lo<=y/\y<hi) x:=by
 have hp:=LNb.path hl
 obtain⟨p,b',q,rfl,hl,_,_,hr⟩:=hl
 have hpl:=ho.h.path
 have hkl:=ho.len
 exact⟨hp,by show _<=_+2;omega,capOk.some (by show _+2<=_;omega),.inr ⟨b',0,rfl,⟨by omega,by omega⟩,FoAt.wide (fun y hy=>⟨by omega,by omega⟩) d.k b' 0 (LNF.dat d.k (b'+1) q b' 0 ho.k hr)⟩,by show _<=_+2;omega,capOk.some (by show _+2<=_;omega)⟩
end Go.Proofs.YtlhfickniegooaaDoor

namespace Go.Proofs.YtlhfickniegooaaDoor
open Go.RowKit Go.Sort
set_option maxRecDepth 100000
theorem info_int9:(Tryd.prog.info? 3).map (fun i=>(i.zero,i.size,i.bytes))=some (some (.int .i64 0),1,8):=by kernel_rfl
theorem info_dat9:(Tryd.prog.info? 31).map (fun i=>(i.zero,i.size,i.bytes))=some (some (.agg zeroC),11,136):=by kernel_rfl
theorem parts9{P:Program}{t:TypeId}{z:Value}{s b:Nat}(h:(P.info? t).map (fun i=>(i.zero,i.size,i.bytes))=some (some z,s,b)): ∃i,P.info? t=some i/\i.zero=some z/\i.size=s/\i.bytes=b:=by
 obtain⟨i,h1,h2⟩:=Option.map_eq_some_iff.1 h
 injection h2 with q1 q2
 injection q2 with q2 q3
 exact⟨i,h1,q1,q2,q3⟩
theorem make_dat9(n:Nat)(hn:n<=1034834473170)(W:World):(Instr.makeSlice 29 (.int .i64 ((n:Int)+2)) (.int .i64 ((n:Int)+2))).run Tryd.prog W=
  .ok (.slice (some ⟨W.heap.size,0,none⟩) (n+2) (n+2)) (W.alloc (.cells (madeCells zeroC ((n+2)*11)) 31)):=by
 obtain⟨i,hi,hz0,hz1,hz2⟩:=parts9 info_dat9
 have h:=run_make (P:=Tryd.prog) W 29 31 i _ Tryd.underlying29 hi hz0 .i64 .i64 ((n:Int)+2) ((n:Int)+2) (by omega) (by omega) (by rw[hz2];omega) (by omega)
 rw[show(((n:Int)+2).toNat)=n+2 by omega,hz1] at h
 exact h
theorem make_int9(n:Nat)(hn:n<=17592186043904)(W:World):(Instr.makeSlice 22 (.int .i64 ((n:Int)+2)) (.int .i64 ((n:Int)+2))).run Tryd.prog W=
  .ok (.slice (some ⟨W.heap.size,0,none⟩) (n+2) (n+2)) (W.alloc (.cells (madeCells #[.int .i64 0] (n+2)) 3)):=by
 obtain⟨i,hi,hz0,hz1,hz2⟩:=parts9 info_int9
 have h:=run_make (P:=Tryd.prog) W 22 3 i _ Tryd.underlying22 hi hz0 .i64 .i64 ((n:Int)+2) ((n:Int)+2) (by omega) (by omega) (by rw[hz2];omega) (by omega)
 rw[show(((n:Int)+2).toNat)=n+2 by omega,hz1,Nat.mul_one] at h
 exact h
theorem copy_path{w:World}{S:Nat->Prop}{pa:Option Addr}{l:List Int}{pc g:Nat}{cu:Array Value}(hp:PathAt w S pa l)(hB:Blk w g 3 cu)(hz:cu.size=l.length+2): ∃v,(Builtin.copy_ #[22,22] 3 #[.slice (some ⟨g,0,none⟩) (l.length+2) (l.length+2),.slice pa l.length pc]).run Tryd.prog w=.ok v (w.setCells g 0 (l.map (Value.int .i64))):=by
 cases pa with
 | none=>
  have hl:l=[]:=by
   rcases hp with h | ⟨b,o,h,_⟩
   ·exact h
   ·cases h
  subst hl
  obtain⟨i,hi,hz0,hz1,hz2⟩:=parts9 info_int9
  refine⟨goInt 0, ?_⟩
  simp[Builtin.copy_,run_underlying Tryd.underlying22,Builtin.lenOf,Builtin.firstCells,sizeOf,typeInfo,hi,storeCells,World.setCells]
 | some ad=>
  have hlm:(l.map (Value.int .i64)).length=l.length:=by simp
  have hsrc: ∀(j:Nat) (v:Value),(l.map (Value.int .i64))[j]? =some v->w.cell? (ad.add j)=some v:=fun j v hv=>by
   rw[List.getElem?_map] at hv
   obtain⟨y,hy,rfl⟩:=Option.map_eq_some_iff.1 hv
   rcases hp with h | ⟨b,o,h,_,h2⟩
   ·rw[h] at hy
    cases hy
   ·injection h with h
    subst h
    rw[addr_add]
    exact h2 j y hy
  have hcp:=run_copy_cells (P:=Tryd.prog) w 22 22 3 3 g 0 (l.length+2) (l.length+2) ad l.length pc (l.map (Value.int .i64)) Tryd.underlying22 (by kernel_rfl)
   (by rw[hlm];exact(Nat.min_eq_left (by omega)).symm) hsrc (fun j hj=>by rw[Nat.zero_add,hB.cell,Array.getElem?_eq_getElem (by omega)];rfl) (fun j _=>hB.frozen _) (fun v hv=>by obtain⟨x,_,rfl⟩:=List.mem_map.1 hv;rfl)
  exact⟨_,hcp⟩
theorem set_cell{w:World}{g o:Nat}{t:TypeId}{cu:Array Value}(h:Blk w g t cu)(vs:List Value)(hz:o+vs.length<=cu.size){j:Nat}{v:Value}(hv:vs[j]? =some v):(w.setCells g o vs).cell? ⟨g,o+j,none⟩=some v:=World.rangeAt_setCells_same w g o vs (there_bk h hz) j v hv
theorem set_out{w:World}{g o:Nat}(vs:List Value){b j:Nat}(h:b=g->j<o\/o+vs.length<=j):(w.setCells g o vs).cell? ⟨b,j,none⟩=w.cell? ⟨b,j,none⟩:=World.cell?_setCells_out g vs o w ⟨b,j,none⟩ (fun e _=>h e)
theorem set_blk{w:World}{g o:Nat}{t:TypeId}{n:Nat}(vs:List Value)(h: ∃cu,Blk w g t cu/\cu.size=n): ∃cu,Blk (w.setCells g o vs) g t cu/\cu.size=n:=let⟨cu,h1,h2⟩:=h;let⟨cu',h3,h4⟩:=setCells_blk vs o w cu h1;⟨cu',h3,h4.trans h2⟩
def LentC(h:Hd)(k:Fo):Prop:= ∀(w:World) (S:Nat->Prop) (m:Dm),rightB h k=true->DatAt w S h k m.pa m.pc m.ia m.ic->
 Calls Tryd.prog 43 #[.agg (h.cells m.pa m.pc m.ia k.len m.ic)] w fun e w'=> ∃x:Dm,e=.returned (.agg (h.cells x.pa x.pc x.ia k.len x.ic))/\(LN w' w.heap.size w'.heap.size h k x/\Below w.heap.size w w')
set_option maxHeartbeats 4000000 in
theorem lent_no{d:Dt}{m:Dm}{w:World}{S:Nat->Prop}(ho:d.ok)(hr:rB d=false)(hd:d.at w S m):Calls Tryd.prog 43 #[.agg (d.cs m)] w fun e w'=>e=.returned (.agg (d.cs m))/\Below w.heap.size w w':=by
 refine calls_ev (vs:=[.agg (d.cs m)]) 85 Tryd.func43 le_body (by kernel_rfl) (by simp) fun a0 h0=> ?_
 unfold leBody
 refine wp_seq (rg_wp (le_r0 h0 rfl fun a1 h1=> ?_))
 have hA1:=Blk.new w 31 (d.cs m)
 have hb1:=bl_alloc (Below.refl w.heap.size w) (.cells (d.cs m) 31)
 generalize w.alloc (.cells (d.cs m) 31)=w1 at h1 hA1 hb1 ⊢
 have lo1:w.heap.size<w1.heap.size:=hA1.lt
 have hZ2:Blk _ w1.heap.size 31 (zD.cs m0):=Blk.new w1 31 zeroC
 have hab1:=bl_alloc (Below.refl w1.heap.size w1) (.cells zeroC 31)
 have hA2:=hA1.below hab1 hA1.lt
 have hb2:=bl_trans hb1 hab1
 show Code.wp _ _ _ a1 (w1.alloc (.cells zeroC 31))
 generalize w1.alloc (.cells zeroC 31)=w2 at hZ2 hA2 hb2 ⊢
 refine wp_seq (rg_wp (le_r1 h1 rfl (dat_whole hA2) (refRight_any d.h d.k ho.h ho.k ho.len w2 S _ _ _ _ (hd.old hb2)) fun a2 w3 hb3 h2=> ?_))
 rw[show rightB d.h d.k=false from hr] at h2
 refine wp_seq (wp_seq (rg_wp (le_r2 h2 rfl fun a3 h3=>wp_cond_true (h3.look 10 rfl) ?_)))
 have hZ3:=hZ2.below hb3 hZ2.lt
 refine wp_seq (rg_wp (le_r3 h3 rfl rfl (dat_whole (hA2.below hb3 hA2.lt)) (dat_put (x:=d) (mx:=m) hZ3 (Nat.le_refl _)) fun a4 h4=>wp_ret (then_ret ?_)))
 exact ret_c rfl h4 rfl (dat_whole (dat_over hZ3 rfl d m)) ⟨rfl,below_setCells _ _ _ (bl_trans hb2 hb3) (by omega)⟩
end Go.Proofs.YtlhfickniegooaaDoor
