/-
   Written by an AI agent.
-/
import Derived.Test.YtbjegfpfmnleeaaGreatDoorPk32
import Derived.Test.YtbjegfpfmnleeaaGreatDoorPk31
import Derived.Deep.AppendSrc
import Derived.ArgAppend
namespace Go.Proofs.YtbjegfpfmnleeaaGreatDoor
open Go.RowKit Go.Maps
set_option maxRecDepth 100000
def RowsAt(w:World)(S:Nat->Prop)(td:Option Addr)(To:List (List Int)):Prop:=
 ∀(i:Nat) (r:List Int),To[i]? =some r->∃g o rd rc,td=some ⟨g,o,none⟩/\S g/\w.cell? ⟨g,o+i*1,none⟩=some (.slice rd r.length rc)/\PathAt w S rd r
theorem RowsAt.keep{w w':World}{S S':Nat->Prop}{td:Option Addr}{To:List (List Int)}(h:RowsAt w S td To)(hk: ∀b,S b->b<w.heap.size->w'.heap[b]? =w.heap[b]?)(hS: ∀b,S b->b<w.heap.size->S' b):RowsAt w' S' td To:=fun i r hr=>by
 obtain⟨g,o,rd,rc,e1,e2,e3,e4⟩:=h i r hr
 have hlt:g<w.heap.size:=H0 e3
 exact⟨g,o,rd,rc,e1,hS g e2 hlt,(World.cell?_of_block (w:=w) (hk g e2 hlt)).trans e3,e4.keep hk hS⟩
structure GrAt (w:World) (gp:Nat) (S:Nat->Prop) (N:List Int) (To:List (List Int)):Prop where
 blk: ∃nd nc td tc,Blk w gp 33 #[.slice nd N.length nc,.slice td To.length tc]/\PathAt w S nd N/\RowsAt w S td To
 own:S gp
 same:To.length=N.length
 far:N.length<=1000000
 rows: ∀r,r∈To->r.length<=1000000
theorem GrAt.keep{w w':World}{gp:Nat}{S S':Nat->Prop}{N:List Int}{To:List (List Int)}(h:GrAt w gp S N To)(hk: ∀b,S b->b<w.heap.size->w'.heap[b]? =w.heap[b]?)(hS: ∀b,S b->b<w.heap.size->S' b):GrAt w' gp S' N To:=by
 obtain⟨⟨nd,nc,td,tc,h1,h2,h3⟩,h4,h5,h6,h7⟩:=h
 exact⟨⟨nd,nc,td,tc,(hk gp h4 h1.lt).trans h1,h2.keep hk hS,h3.keep hk hS⟩,hS gp h4 h1.lt,h5,h6,h7⟩
theorem GrAt.old{w w':World}{gp:Nat}{N:List Int}{To:List (List Int)}(h:GrAt w gp (fun b=>b<w.heap.size) N To)(hb:Below w.heap.size w w'):GrAt w' gp (fun b=>b<w'.heap.size) N To:=
 h.keep (fun b hl _=>hb.block b hl) (fun b hl _=>Nat.lt_of_lt_of_le hl hb.size)
def gAt(N:List Int)(n:Int):Option Nat:=if n∈N then some (N.idxOf n) else none
def oI:Option Nat->Int
 | some k=>(k:Int)
 | none=> -1
theorem D6{N:List Int}{n:Int}{k:Nat}(h:gAt N n=some k):N[k]? =some n/\k<N.length:=by
 unfold gAt at h
 split at h
 ·rename_i hm
  injection h with h
  subst h
  have:=List.idxOf_lt_length_of_mem hm
  exact⟨by rw[List.getElem?_eq_getElem this,List.getElem_idxOf],this⟩
 ·cases h
theorem Yy{N:List Int}{n:Int}{i:Nat}(hx:N[i]? =some n)(hn:n∉N.take i):gAt N n=some i:=by
 unfold gAt
 rw[if_pos (List.mem_of_getElem? hx)]
 have hi:=(List.getElem?_eq_some_iff.1 hx).1
 congr 1
 have e:N=N.take i++n::N.drop (i+1):=by
  obtain⟨h1,h2⟩:=List.getElem?_eq_some_iff.1 hx
  rw[<-h2,List.getElem_cons_drop,List.take_append_drop]
 rw[e,List.idxOf_append,if_neg hn,List.idxOf_cons_self,List.length_take]
 omega
theorem Dn{w:World}{gp:Nat}{S:Nat->Prop}{N:List Int}{To:List (List Int)}(h:GrAt w gp S N To)(n:Int):
  Calls Tryz.prog 32 #[pT gp,ii n] w fun e w'=>e=.returned (ii (oI (gAt N n)))/\w=w':=by
 obtain⟨⟨nd,nc,td,tc,hX,hN,hT⟩,hS,hs,hf,hr⟩:=h
 refine B6 (vs:=[pT gp,ii n]) 25 Tryz.func32 Am5 Zk (by simp) fun a0 h0=> ?_
 unfold Xw
 refine Zs (Da9 h0 fun a1 h1=> ?_)
 refine wp_seq (Zs (Db0 h1 fun a2 h2=> ?_))
 refine wp_block ?_
 refine wp_loop (fun a' wr=> ∃i:Nat,i<=N.length/\Sl 25 a' [(5,ii (i:Int)),(0,pT gp),(1,ii n)]/\w=wr/\n∉N.take i) (fun a' _=>G1 N.length (F9 a' 5))
  ⟨0,Nat.zero_le _,h2.to ⟨rfl,rfl,rfl,trivial⟩,rfl,by simp⟩ ?_
 rintro a4 w4 ⟨i,hi,h4,rfl,ht⟩
 rw[h4.look 5 rfl,B4]
 unfold Da8
 by_cases hlt:i<N.length
 ·refine wp_seq (Zs (Bc1 (nn:=N.length) (b12:=true) h4 rfl rfl (A9 hX Tryz.underlying24 rfl rfl) (decide_eq_true Zo) fun a5 h5=>wpn (h5.look 12 rfl) ?_))
  obtain⟨x,hx⟩: ∃x,N[i]? =some x:=⟨N[i],List.getElem?_eq_getElem hlt⟩
  obtain⟨g,o,hpa,hc⟩:=G9 hN hx
  have hX':=hX
  rw[hpa] at hX'
  refine wp_seq (wp_block ?_)
  by_cases hxn:x=n
  ·refine Zs (Bc2 (x:=x) (b23:=true) h5 rfl rfl rfl (A9 hX' Tryz.underlying24 rfl rfl) (fun w=>D7 hlt w) (H9 Tryz.underlying3 rfl hc) (decide_eq_true hxn) fun a6 h6=>wp_cond_true (h6.look 23 rfl) ?_)
   refine Zs (Db2 h6 rfl fun a7 h7=>wp_ret ?_)
   repeat (first | with_reducible refine D2 ?_ | with_reducible refine F1 ?_)
   refine G7 rfl h7 rfl ⟨?_,rfl⟩
   rw[Yy (hxn ▸ hx) ht]
   rfl
  ·refine Zs (Bc2 (x:=x) (b23:=false) h5 rfl rfl rfl (A9 hX' Tryz.underlying24 rfl rfl) (fun w=>D7 hlt w) (H9 Tryz.underlying3 rfl hc) (decide_eq_false hxn) fun a6 h6=>B9 (h6.look 23 rfl) (B1 ?_))
   show Code.wp _ (W4 3) _ a6 _
   refine Zl (Db1 h6 rfl Zo fun a7 h7=>⟨⟨i+1,hlt, ?_,rfl, ?_⟩, ?_⟩)
   ·exact h7.to ⟨rfl,rfl,rfl,trivial⟩
   ·rw[List.take_add_one,hx]
    simp only[Option.toList_some,List.mem_append,List.mem_singleton,not_or]
    exact⟨ht,fun e=>hxn e.symm⟩
   ·rw[h7.look 5 rfl]
    show G1 N.length (ii ((i+1:Nat):Int))<_
    rw[B4]
    omega
 ·refine wp_seq (Zs (Bc1 (nn:=N.length) (b12:=false) h4 rfl rfl (A9 hX Tryz.underlying24 rfl rfl) (decide_eq_false Zo) fun a5 h5=>C9 (h5.look 12 rfl) ?_))
  refine A8 (A8 (B8 ?_))
  refine Zs (Db3 h5 fun a6 h6=>wp_ret ?_)
  refine G7 rfl h6 rfl ⟨?_,rfl⟩
  obtain rfl:i=N.length:=by omega
  rw[List.take_length] at ht
  unfold gAt
  rw[if_neg ht]
  rfl
def Bx4(h:Hd)(k:Fo):Prop:= ∀(w:World) (B:Nat) (S:Nat->Prop) (s:S3) (l:List Int) (m:Dm),ZRow w B s l->B<=w.heap.size->(⟨h,k⟩:Dt).at w S m->(∀b,S b->s.v.ownBlock≠some b)->(l++Aa h k).length<=1000000000->
 Calls Tryz.prog 54 #[.slice s.d s.n s.c,.agg ((⟨h,k⟩:Dt).cs m)] w fun e w'=> ∃t:S3,e=.returned (.slice t.d t.n t.c)/\(ZRow w' B t (l++Aa h k)/\Rw w w' s t)
set_option maxHeartbeats 2000000 in
theorem Bx5(h:Hd)(k:Fo)(hf:k.len<=1034834473170)(hk: ∀i a k',k.get i=some (a,k')->Bx4 a k'):Bx4 h k:=by
 intro w B S s l m hZ hB hd hne hlen
 replace hd:(⟨h,k⟩:Dt).at w (fun b=>S b/\b<w.heap.size) m:=hd.keep (fun _ _ _=>rfl) (fun b h1 h2=>⟨h1,h2⟩)
 refine B6 (vs:=[.slice s.d s.n s.c,.agg ((⟨h,k⟩:Dt).cs m)]) 34 Tryz.func54 Am6 Zk (by simp) fun a0 h0=> ?_
 unfold Xx
 refine Zs (Db5 (d:=⟨h,k⟩) (m:=m) h0 rfl fun a1 h1=> ?_)
 have hX:=Blk.new w C7 ((⟨h,k⟩:Dt).cs m)
 have hb1:Below w.heap.size w (w.alloc (.cells ((⟨h,k⟩:Dt).cs m) C7)):=B2 (Below.refl _ _) _
 change Code.wp _ _ _ a1 (w.alloc (.cells ((⟨h,k⟩:Dt).cs m) C7))
 generalize w.alloc (.cells ((⟨h,k⟩:Dt).cs m) C7)=u at hX hb1 ⊢
 have hzu:=hb1.size
 have hxl:=hX.lt
 have hZ1:=hZ.old hb1
 have hlen':=hlen
 unfold Aa at hlen'
 simp only[List.length_append] at hlen'
 have hnx:s.v.ownBlock≠some w.heap.size:=fun e=>by have:=(ARow.block hZ e).2;omega
 have hne1: ∀b,S b/\b<w.heap.size->s.v.ownBlock≠some b:=fun b hb=>hne b hb.1
 obtain⟨rest,hrest⟩: ∃rest:Act->World->Prop,rest=fun a7 w7=> ∃(t7:S3),Sl 34 a7 [(0,.slice t7.d t7.n t7.c),(3,pT w.heap.size)]/\ZRow w7 B t7 (l++(if h.obj=0 then[] else[h.obj]))/\Rw u w7 s t7:=⟨_,rfl⟩
 refine wp_seq (Code.wp_mono (Q:=fun e a' w'=>e=.normal/\rest a' w') ?_ ?_)
 ·rintro e a7 w7 ⟨rfl,hr⟩
  rw[hrest] at hr
  obtain⟨t7,h7,hZ7,hW7⟩:=hr
  have hz7:=hW7.m.size
  have hX7:Blk w7 w.heap.size C7 ((⟨h,k⟩:Dt).cs m):=(hW7.blk hxl hnx).trans hX
  have hd7:SlAt w7 (fun b=>S b/\b<w.heap.size) m.ia k:=hd.kids.keep (fun x hx hl=>(hW7.blk Zo (hne1 x hx)).trans (hb1.block x hl)) (fun _ hx _=>hx)
  have hne7: ∀b,S b/\b<w.heap.size->t7.v.ownBlock≠some b:=fun b hb=>hW7.ne Zo (hne1 b hb)
  have hWw:Rw w w7 s t7:=Rw.pre hb1 hW7
  have fin: ∀(a8:Act) (w8:World) (t8:S3),Sl 34 a8 [(0,.slice t8.d t8.n t8.c)]->ZRow w8 B t8 (l++Aa h k)->Rw w w8 s t8->Code.wp Tryz.prog (.seq (P5 8) .ret) (bodyPost Tryz.prog Tryz.f54 fun e w'=> ∃t:S3,e=.returned (.slice t.d t.n t.c)/\(ZRow w' B t (l++Aa h k)/\Rw w w' s t)) a8 w8:=fun a8 w8 t8 h8 hZ8 hW8=>by
   refine Zs (Dc0 h8 rfl fun a9 h9=>wp_ret ?_)
   exact G7 rfl h9 rfl ⟨t8,rfl,hZ8,hW8⟩
  show Code.wp _ _ _ a7 w7
  by_cases hkd:h.kind=8
  ·refine wp_seq (Zs (Bc4 (k:=h.kind) (b18:=true) h7 rfl (A9 hX7 Tryz.underlying3 rfl rfl) (decide_eq_true hkd) fun a8 h8=>wp_cond_true (h8.look 18 rfl) ?_))
   refine Zs (Db7 h8 fun a9 h9=> ?_)
   refine wp_block ?_
   refine wp_loop (fun a' wr=> ∃(i:Nat) (t:S3) (P:List Int),i<=k.len/\Sl 34 a' [(5,ii (i:Int)),(3,pT w.heap.size),(0,.slice t.d t.n t.c)]/\ZRow wr B t P/\Rw w7 wr t7 t/\P++L1 (k.drop i)=l++Aa h k) (fun a' _=>G1 k.len (F9 a' 5))
    ⟨0,t7,_,Nat.zero_le _,h9.to ⟨rfl,rfl,rfl,trivial⟩,hZ7,.of_below (Below.refl _ _) _,by rw[Fo.drop_zero];unfold Aa;rw[if_pos hkd,List.append_assoc]⟩ ?_
   rintro b1 w9 ⟨i,t,P,hi,k1,hZ9,hW9,hP⟩
   rw[k1.look 5 rfl,B4]
   unfold Db4
   have hPl:(P++L1 (k.drop i)).length<=1000000000:=by rw[hP];exact hlen
   rw[List.length_append] at hPl
   have hz9:=hW9.m.size
   have hX9:Blk w9 w.heap.size C7 ((⟨h,k⟩:Dt).cs m):=(hW9.blk Zo (hW7.ne Zo hnx)).trans hX7
   by_cases hlt:i<k.len
   ·refine wp_seq (Zs (Bc5 (sn:=k.len) (b23:=true) k1 rfl rfl (A9 hX9 Tryz.underlying23 rfl rfl) (decide_eq_true Zo) fun b2 k2=>wpn (k2.look 23 rfl) ?_))
    obtain⟨h',k',hg⟩:=Fo.get_lt k i hlt
    have hd9:SlAt w9 (fun b=>S b/\b<w.heap.size) m.ia k:=hd7.keep (fun b hb _=>hW9.blk Zo (hne7 b hb)) (fun _ hb _=>hb)
    obtain⟨b,o,hia,hSb,pa,pc,ja,jc,hc,hdd⟩:=hd9.get hg
    refine wp_seq (wp_block ?_)
    rw[Bl k hg] at hP hPl
    simp only[List.length_append] at hPl
    refine Zl (Db9 (sd:=m.ia) (sn:=k.len) (sc:=m.ic) (g30:=b) (x:=⟨h',k'⟩) (mx:=⟨pa,pc,ja,jc⟩) (C0:=fun t8 w8=>ZRow w8 B t8 (P++Aa h' k')/\Rw w9 w8 t t8) k2 rfl rfl rfl (A9 hX9 Tryz.underlying23 rfl rfl) (by rw[hia];exact fun w=>J2 i Tryz.underlying23 K4 hlt w) (M2 (d:=⟨h',k'⟩) (m:=⟨pa,pc,ja,jc⟩) hc) (hk i h' k' hg w9 B _ t P _ hZ9 Zo hdd (fun b hb=>hW9.ne Zo (hne7 b hb)) (by simp only[List.length_append];omega)) fun b4 t8 w8 hq k4=> ?_)
    obtain⟨hZ8,hW8⟩:=hq
    refine B1 ?_
    show Code.wp _ (P5 6) _ b4 w8
    refine Zl (Db8 k4 rfl Zo fun b5 k5=>⟨⟨i+1,t8,_,hlt, ?_,hZ8,hW9.trans hW8, ?_⟩, ?_⟩)
    ·exact k5.to ⟨rfl,rfl,rfl,trivial⟩
    ·rw[<-hP]
     simp only[List.append_assoc]
    ·rw[k5.look 5 rfl]
     show G1 k.len (ii ((i+1:Nat):Int))<_
     rw[B4]
     omega
   ·refine wp_seq (Zs (Bc5 (sn:=k.len) (b23:=false) k1 rfl rfl (A9 hX9 Tryz.underlying23 rfl rfl) (decide_eq_false Zo) fun b2 k2=>C9 (k2.look 23 rfl) ?_))
    refine A8 (A8 (B8 ?_))
    obtain rfl:i=k.len:=by omega
    rw[Fo.drop_len k _ (Nat.le_refl _)] at hP
    have hP':P=l++Aa h k:=by simpa[L1] using hP
    subst hP'
    exact fin b2 w9 t (k2.to ⟨rfl,trivial⟩) hZ9 (hWw.trans hW9)
  ·refine wp_seq (Zs (Bc4 (k:=h.kind) (b18:=false) h7 rfl (A9 hX7 Tryz.underlying3 rfl rfl) (decide_eq_false hkd) fun a8 h8=>B9 (h8.look 18 rfl) ?_))
   refine fin a8 w7 t7 (h8.to ⟨rfl,trivial⟩) ?_ hWw
   unfold Aa
   rw[if_neg hkd,List.append_nil]
   exact hZ7
 ·by_cases hz:h.obj=0
  ·refine Zs (Bc3 (o:=h.obj) (b9:=false) h1 rfl (A9 hX Tryz.underlying3 rfl rfl) (decide_eq_false (by simpa using hz)) fun a2 h2=>B9 (h2.look 9 rfl) ⟨rfl, ?_⟩)
   rw[hrest]
   refine⟨s,h2.to ⟨rfl,rfl,trivial⟩, ?_,.of_below (Below.refl _ _) s⟩
   rw[if_pos hz,List.append_nil]
   exact hZ1
  ·refine Zs (Bc3 (o:=h.obj) (b9:=true) h1 rfl (A9 hX Tryz.underlying3 rfl rfl) (decide_eq_true hz) fun a2 h2=> ?_)
   refine wp_cond_true (h2.look 9 rfl) (Zl (Db6 (o:=h.obj) (C0:=fun _ v x=>ZRow x B v (l++[h.obj])/\Rw u x s v) h2 rfl rfl (A9 hX Tryz.underlying3 rfl rfl) (fun ty=> ?_) fun a8 t8 w8 hq h8=> ?_))
   ·obtain⟨s',x,r1,r2,r3,r4⟩:=ZRow.app hZ1 Zo Zo h.obj ty
    exact⟨s',x,r1,r2,r3,r4.imp_right fun e=>⟨_,e,Zo⟩⟩
   ·refine⟨rfl, ?_⟩
    rw[hrest]
    refine⟨t8,h8.to ⟨rfl,rfl,trivial⟩, ?_,hq.2⟩
    rw[if_neg hz]
    exact hq.1
theorem Hk: ∀(f:Fo),f.ok->∀i a k,f.get i=some (a,k)->Bx4 a k
 | .nil,_,i,_,_,e=>by cases e
 | .cons h k r,ho,0,a,k',e=>by
  simp only[Fo.get,Option.some.injEq,Prod.mk.injEq] at e
  obtain⟨rfl,rfl⟩:=e
  exact Bx5 h k ho.2.2.2 (Hk k ho.2.1)
 | .cons h k r,ho,i+1,a,k',e=>Hk r ho.2.2.1 i a k' e
theorem Hl{w:World}{B:Nat}{S:Nat->Prop}{s:S3}{l:List Int}(h:ZRow w B s l)(hn:l.length<=100000000)(hB:B<=w.heap.size){pa:Option Addr}{bx:List Int}(hp:PathAt w S pa bx)(hb:bx.length<=100000000)(pc:Nat):
  ∃(s':S3) (w':World),(∀ty,(Builtin.append_ #[24,24] ty #[.slice s.d s.n s.c,.slice pa bx.length pc]).run Tryz.prog w=.ok (S3.v s') w')/\ZRow w' B s' (l++bx)/\Rw w w' s s':=by
 obtain⟨i,hi,hz0,hz1,hz2⟩:=An Jo
 rcases bx with _ | ⟨x,r⟩
 ·refine⟨s,w,fun ty=> ?_,by rw[List.append_nil];exact h,.of_below (Below.refl _ _) s⟩
  have hs:Src Tryz.prog 1 24 (.slice pa 0 pc) 0 [] w:=by
   cases pa with
   | none=>exact Src.ofNil w Tryz.underlying24 pc
   | some a=>exact Src.ofSlice w Tryz.underlying24 a 0 pc [] rfl (fun j u hu=>by simp at hu) (fun u hu=>by cases hu)
  rcases ARow.cases h with⟨rfl,e1,e2⟩ | ⟨g,cs,e1,e2,e3,e4,e5,e6,e7,e8⟩
  ·cases pa<;>rfl
  ·have hs':Src Tryz.prog i.size 24 (.slice pa 0 pc) 0 [] w:=by rw[hz1];exact hs
   have:=run_append_room_src (P:=Tryz.prog) w 24 24 ty 3 i Tryz.underlying24 hi g 0 s.n s.c (.slice pa 0 pc) 0 [] hs' (by rw[e1];exact e5) (fun j hj=>by simp at hj) (fun j hj=>by simp at hj)
   rw[e1]
   rw[e1] at this
   exact this
 ·obtain⟨g,o,hpa,_,_⟩:=hp.get (j:=0) (x:=x) rfl
  obtain⟨bx,hbx⟩: ∃bx,bx=x::r:=⟨_,rfl⟩
  rw[<-hbx] at hp hb ⊢
  have hcell: ∀(j:Nat) (u:Value),(bx.map (Value.int .i64))[j]? =some u->w.cell? ((⟨g,o,none⟩:Addr).add j)=some u:=fun j u hu=>by
   rw[List.getElem?_map] at hu
   cases hy:bx[j]? with
   | none=>rw[hy] at hu;cases hu
   | some y=>
    rw[hy] at hu
    injection hu with hu
    subst hu
    obtain⟨g',o',h1,_,h2⟩:=hp.get hy
    rw[hpa] at h1
    injection h1 with h1
    injection h1 with h1 h3
    subst h1 h3
    rw[Ck]
    exact h2
  obtain⟨v',w',hr,ho,hg,_,hblk⟩:=run_append_own_at (P:=Tryz.prog) (w:=w) B 24 0 3 i _ 1 8 Tryz.underlying24 hi hz0 hz1 hz2 rfl Zo s.v l.length _ h.2 ⟨g,o,none⟩ bx.length pc (bx.map (Value.int .i64)) (by rw[List.length_map,Nat.mul_one]) hcell (fun u hu=>by
   obtain⟨y,_,rfl⟩:=List.mem_map.1 hu
   rfl) (by simp only[maxLen];omega) Zo hB
  obtain⟨s',rfl,hs'⟩:=ARow.of_v ho
  rw[hpa]
  refine⟨s',w',fun ty=>Am (by rw[show S3.v s=.slice s.d s.n s.c from rfl] at hr;exact hr) ty, ?_, ?_⟩
  ·unfold ZRow
   rw[List.length_append,List.map_append]
   exact hs'
  ·exact⟨⟨hg.size,hg.os,hg.tape,hg.output,fun b hb' hn'=>hg.block b hb' (fun e=>hn' e.symm)⟩,hblk.imp_right fun e=>⟨_,e,Nat.le_refl _⟩⟩
def P0(N:List Int)(L:List Int):List Int:=L.filterMap fun n=>(gAt N n).map fun k=>((k:Nat):Int)
theorem Dp{N L:List Int}{i:Nat}{x:Int}(hx:L[i]? =some x):P0 N (L.take (i+1))=P0 N (L.take i)++((gAt N x).map fun k=>((k:Nat):Int)).toList:=by
 unfold P0
 rw[List.take_add_one,hx,List.filterMap_append]
 rfl
set_option maxHeartbeats 2000000 in
theorem Fz{w:World}{gp:Nat}{N:List Int}{To:List (List Int)}(hG:GrAt w gp (fun b=>b<w.heap.size) N To){l:Fo}{ia:Option Addr}{bx:List Int}{pa:Option Addr}(hI:InAt w l ia bx pa)(lc pc:Nat):
  Calls Tryz.prog 31 #[pT gp,.slice ia l.len lc,.slice pa bx.length pc] w fun e w'=> ∃q:S3,e=.returned (.slice q.d q.n q.c)/\(ZRow w' w.heap.size q (P0 N (L1 l++bx))/\Below w.heap.size w w'):=by
 refine B6 (vs:=[pT gp,.slice ia l.len lc,.slice pa bx.length pc]) 46 Tryz.func31 Am7 Zk (by simp) fun a0 h0=> ?_
 unfold Xy
 refine Zs (Dc3 h0 fun a1 h1=> ?_)
 refine Zs (Dc4 h1 fun a2 h2=> ?_)
 have hln:=hI.len
 rw[List.length_append] at hln
 obtain⟨mid,hmid⟩: ∃mid:Act->World->Prop,mid=fun a7 w7=> ∃t:S3,Sl 46 a7 [(7,.slice t.d t.n t.c),(2,.slice pa bx.length pc),(0,pT gp)]/\ZRow w7 w.heap.size t (L1 l)/\Below w.heap.size w w7:=⟨_,rfl⟩
 refine wp_seq (Code.wp_mono (Q:=fun e a' w'=>e=.normal/\mid a' w') ?_ ?_)
 ·rintro e a7 w7 ⟨rfl,hr⟩
  rw[hmid] at hr
  obtain⟨t,h7,hZ7,hb7⟩:=hr
  show Code.wp _ _ _ a7 w7
  have hz7:=hb7.size
  have hp7:PathAt w7 (fun b=>b<w.heap.size) pa bx:=hI.row.keep (fun b _ hl=>hb7.block b hl) (fun b _ hl=>hl)
  have hne: ∀(b:Nat),b<w.heap.size->t.v.ownBlock≠some b:=fun b hb e=>by have:=(ARow.block hZ7 e).1;omega
  obtain⟨s',w8,e1,e2,e3⟩:=Hl hZ7 Zo hz7 hp7 Zo pc
  refine Zs (Dc8 (C0:=fun _ v x=>ZRow x w.heap.size v (L1 l++bx)/\Rw w7 x t v) h7 rfl rfl (fun ty=>⟨s',w8,e1 ty,e2,e3⟩) fun a8 t8 w9 hq h8=> ?_)
  obtain⟨hZ9,hW9⟩:=hq
  have hb9:Below w.heap.size w w9:=hb7.trans (hW9.bel (fun g hg=>(ARow.block hZ7 hg).1) hz7)
  refine Zs (Dc9 h8 fun a9 h9=> ?_)
  refine wp_seq (Zs (Dd0 h9 fun a10 h10=> ?_))
  obtain⟨L,hL⟩: ∃L,L=L1 l++bx:=⟨_,rfl⟩
  rw[<-hL] at hZ9 ⊢
  have hLl:L.length<=1000000:=by rw[hL,List.length_append];omega
  have hz9:=hb9.size
  have hZs:=hZ9
  refine wp_block ?_
  refine wp_loop (fun a' wr=> ∃(i:Nat) (t:S3),i<=L.length/\Sl 46 a' [(10,ii (i:Int)),(9,.slice t.d t.n t.c),(7,.slice t8.d L.length t8.c),(0,pT gp)]/\ZRow wr w9.heap.size t (P0 N (L.take i))/\Below w9.heap.size w9 wr) (fun a' _=>G1 L.length (F9 a' 10))
   ⟨0,⟨none,0,0⟩,Nat.zero_le _,by have:=hZ9.1;exact(this ▸ h10).to ⟨rfl,rfl,rfl,rfl,trivial⟩,ZRow.nil _ _,Below.refl _ _⟩ ?_
  rintro b1 w10 ⟨i,t,hi,k1,hZ10,hb10⟩
  rw[k1.look 10 rfl,B4]
  unfold Dc1
  have hz10:=hb10.size
  by_cases hlt:i<L.length
  ·refine wp_seq (Zs (Bc7 (an:=L.length) (b30:=true) k1 rfl rfl (decide_eq_true Zo) fun b2 k2=>wpn (k2.look 30 rfl) ?_))
   obtain⟨x,hx⟩: ∃x,L[i]? =some x:=⟨L[i],List.getElem?_eq_getElem hlt⟩
   have hZ':ZRow w10 w.heap.size t8 L:=hZ9.old hb10
   obtain⟨g,hd,hn,hc⟩:=hZ'.get hx
   rw[hd] at k2
   have hG10:GrAt w10 gp (fun b=>b<w10.heap.size) N To:=hG.old (A7 hb9 hb10)
   refine wp_seq (wp_block ?_)
   refine Zs (Bs8 (x:=x) (k:=oI (gAt N x)) (C0:=fun w'=>w10=w') k2 rfl rfl rfl (fun w=>D7 hlt w) (H9 Tryz.underlying3 rfl hc) (Dn hG10 x) fun b3 w11 hq k3=> ?_)
   subst hq
   cases hg:gAt N x with
   | none=>
    rw[hg] at k3
    refine Zs (Ya (k:= -1) (b40:=false) k3 rfl (decide_eq_false Zo) fun b4 k4=>B9 (k4.look 40 rfl) (B1 ?_))
    show Code.wp _ (J5 10) _ b4 _
    refine Zl (Xz k4 rfl Zo fun b5 k5=>⟨⟨i+1,t,hlt, ?_, ?_,hb10⟩, ?_⟩)
    ·rw[hd]
     exact k5.to ⟨rfl,rfl,rfl,rfl,trivial⟩
    ·rw[Dp hx,hg]
     simpa using hZ10
    ·rw[k5.look 10 rfl]
     show G1 L.length (ii ((i+1:Nat):Int))<_
     rw[B4]
     omega
   | some k=>
    rw[hg] at k3
    refine Zs (Ya (k:=(k:Int)) (b40:=true) k3 rfl (decide_eq_true Zo) fun b4 k4=> ?_)
    have hpl:(P0 N (L.take i)).length<=1000000:=Nat.le_trans (List.length_filterMap_le _ _) (by rw[List.length_take];omega)
    obtain⟨s',w12,e1,e2,e3,e4⟩:=ZRow.app' hZ10 Zo hz10 (k:Int)
    refine wp_cond_true (k4.look 40 rfl) (Zl (Bs9 (k:=(k:Int)) (C0:=fun _ v x=>ZRow x w9.heap.size v (P0 N (L.take i)++[(k:Int)])/\Rw w10 x t v) k4 rfl rfl (fun ty=>⟨s',w12,e1 ty,e2,e3,e4⟩) fun b5 t5 w13 hq k5=>B1 ?_))
    obtain⟨hZ13,hW13⟩:=hq
    show Code.wp _ (J5 10) _ b5 _
    refine Zl (Xz k5 rfl Zo fun b6 k6=>⟨⟨i+1,t5,hlt, ?_, ?_,hb10.trans (hW13.bel (fun g hg=>(ARow.block hZ10 hg).1) hz10)⟩, ?_⟩)
    ·rw[hd]
     exact k6.to ⟨rfl,rfl,rfl,rfl,trivial⟩
    ·rw[Dp hx,hg]
     exact hZ13
    ·rw[k6.look 10 rfl]
     show G1 L.length (ii ((i+1:Nat):Int))<_
     rw[B4]
     omega
  ·refine wp_seq (Zs (Bc7 (an:=L.length) (b30:=false) k1 rfl rfl (decide_eq_false Zo) fun b2 k2=>C9 (k2.look 30 rfl) ?_))
   refine A8 (A8 (B8 ?_))
   obtain rfl:i=L.length:=by omega
   rw[List.take_length] at hZ10
   refine Zs (Bt0 k2 rfl fun b3 k3=>wp_ret ?_)
   exact G7 rfl k3 rfl ⟨t,rfl,hZ10.low hz9,A7 hb9 hb10⟩
 ·refine Zs (Dc5 h2 fun a3 h3=> ?_)
  refine wp_block ?_
  have hf:l.len<=1000000:=hI.far
  refine wp_loop (fun a' wr=> ∃(i:Nat) (t:S3) (P:List Int),i<=l.len/\Sl 46 a' [(8,ii (i:Int)),(7,.slice t.d t.n t.c),(1,.slice ia l.len lc),(2,.slice pa bx.length pc),(0,pT gp)]/\ZRow wr w.heap.size t P/\Below w.heap.size w wr/\P++L1 (l.drop i)=L1 l) (fun a' _=>G1 l.len (F9 a' 8))
   ⟨0,⟨none,0,0⟩,[],Nat.zero_le _,h3.to ⟨rfl,rfl,rfl,rfl,rfl,trivial⟩,ZRow.nil _ _,Below.refl _ _,by rw[Fo.drop_zero];rfl⟩ ?_
  rintro b1 w4 ⟨i,t,P,hi,k1,hZ4,hb4,hP⟩
  rw[k1.look 8 rfl,B4]
  unfold Dc2
  have hz4:=hb4.size
  have hne: ∀(b:Nat),b<w.heap.size->t.v.ownBlock≠some b:=fun b hb e=>by have:=(ARow.block hZ4 e).1;omega
  have hPl:(P++L1 (l.drop i)).length<=1000000:=by rw[hP];omega
  rw[List.length_append] at hPl
  by_cases hlt:i<l.len
  ·refine wp_seq (Zs (Bc6 (ln:=l.len) (b15:=true) k1 rfl rfl (decide_eq_true Zo) fun b2 k2=>wpn (k2.look 15 rfl) ?_))
   obtain⟨h',k',hg⟩:=Fo.get_lt l i hlt
   have hd4:SlAt w4 (fun b=>b<w.heap.size) ia l:=hI.at'.keep (fun b hb _=>hb4.block b hb) (fun _ hb _=>hb)
   obtain⟨b,o,hia,hSb,pa',pc',ja,jc,hc,hdd⟩:=hd4.get hg
   rw[hia] at k2
   rw[Bl l hg] at hP hPl
   simp only[List.length_append] at hPl
   refine wp_seq (wp_block ?_)
   refine Zl (Dc7 (x:=⟨h',k'⟩) (mx:=⟨pa',pc',ja,jc⟩) (C0:=fun t8 w8=>ZRow w8 w.heap.size t8 (P++Aa h' k')/\Rw w4 w8 t t8) k2 rfl rfl rfl (fun w=>J2 i Tryz.underlying23 K4 hlt w) (M2 (d:=⟨h',k'⟩) (m:=⟨pa',pc',ja,jc⟩) hc) (Hk l hI.ok i h' k' hg w4 _ _ t P _ hZ4 hz4 hdd (fun b hb=>hne b hb) (by simp only[List.length_append];omega)) fun b3 t3 w5 hq k3=>B1 ?_)
   obtain⟨hZ5,hW5⟩:=hq
   show Code.wp _ (J5 4) _ b3 w5
   refine Zl (Dc6 k3 rfl Zo fun b4 k4=>⟨⟨i+1,t3,_,hlt, ?_,hZ5,hb4.trans (hW5.bel (fun g hg=>(ARow.block hZ4 hg).1) hz4), ?_⟩, ?_⟩)
   ·rw[hia]
    exact k4.to ⟨rfl,rfl,rfl,rfl,rfl,trivial⟩
   ·rw[<-hP]
    simp only[List.append_assoc]
   ·rw[k4.look 8 rfl]
    show G1 l.len (ii ((i+1:Nat):Int))<_
    rw[B4]
    omega
  ·refine wp_seq (Zs (Bc6 (ln:=l.len) (b15:=false) k1 rfl rfl (decide_eq_false Zo) fun b2 k2=>C9 (k2.look 15 rfl) ?_))
   refine A8 (A8 (B8 ⟨rfl, ?_⟩))
   rw[hmid]
   obtain rfl:i=l.len:=by omega
   rw[Fo.drop_len l _ (Nat.le_refl _)] at hP
   have hP':P=L1 l:=by simpa[L1] using hP
   subst hP'
   exact⟨t,k2.to ⟨rfl,rfl,rfl,trivial⟩,hZ4,hb4⟩
def QRow(w:World)(B:Nat)(s:S3)(l:List Int):Prop:=s.n=l.length/\((s=⟨none,0,0⟩/\l=[])\/
 ∃g o cs,s.d=some ⟨g,o,none⟩/\B<=g/\Blk w g 3 cs/\s.n<=s.c/\s.c<=maxLen/\o+s.c<=cs.size/\∀(j:Nat) (x:Int),l[j]? =some x->cs[o+j]? =some (ii x))
theorem QRow.of_z{w:World}{B:Nat}{s:S3}{l:List Int}(h:ZRow w B s l):QRow w B s l:=by
 refine⟨h.1, ?_⟩
 rcases ARow.cases h with⟨e1,e2,e3⟩ | ⟨g,cs,e1,e2,e3,e4,e5,e6,e7,e8⟩
 ·exact .inl ⟨e1,List.eq_nil_of_length_eq_zero e2⟩
 ·refine .inr ⟨g,0,cs,by rw[e1],e3,e4,by rw[e1];exact e5,e6,Zo,fun j x hx=> ?_⟩
  have hj:=(List.getElem?_eq_some_iff.1 hx).1
  have e9:(cs.toList.take (l.length*1))[j]? =some (ii x):=by rw[e8,List.getElem?_map,hx];rfl
  rw[List.getElem?_take_of_lt Zo] at e9
  rw[Nat.zero_add,<-Array.getElem?_toList]
  exact e9
theorem QRow.old{w w':World}{B:Nat}{s:S3}{l:List Int}(h:QRow w B s l)(hk: ∀g,B<=g->s.v.ownBlock=some g->w'.heap[g]? =w.heap[g]?):QRow w' B s l:=by
 obtain⟨h1,h2⟩:=h
 refine⟨h1,h2.imp_right ?_⟩
 rintro⟨g,o,cs,e1,e2,e3,r⟩
 exact⟨g,o,cs,e1,e2,(hk g e2 (by unfold S3.v;rw[e1];rfl)).trans e3,r⟩
theorem QRow.lt{w:World}{B:Nat}{s:S3}{l:List Int}(h:QRow w B s l){g:Nat}(e:s.v.ownBlock=some g):B<=g/\g<w.heap.size:=by
 rcases h.2 with⟨rfl,_⟩ | ⟨g',o,cs,e1,e2,e3,_⟩
 ·cases e
 ·unfold S3.v at e
  rw[e1] at e
  have e':some g'=some g:=e
  injection e' with e'
  subst e'
  exact⟨e2,e3.lt⟩
theorem QRow.head{w:World}{B:Nat}{s:S3}{x:Int}{l:List Int}(h:QRow w B s (x::l)): ∃g o,s.d=some ⟨g,o,none⟩/\w.cell? ⟨g,o,none⟩=some (ii x):=by
 rcases h.2 with⟨_,e⟩ | ⟨g,o,cs,e1,_,e3,_,_,_,e6⟩
 ·cases e
 ·exact⟨g,o,e1,by rw[e3.cell];exact e6 0 x rfl⟩
theorem Dj9{g o n c:Nat}(hn:1<=n)(hc:n<=c)(w:World): ∃o',(∀w:World,(Instr.sliceAt 24 (.slice (some ⟨g,o,none⟩) n c) (some (ii 1)) none none).run Tryz.prog w=.ok (.slice (some ⟨g,o',none⟩) (n-1) (c-1)) w)/\(o'=o+1\/(c=1/\o'=o)):=by
 obtain⟨i,hi1,hi2⟩:=Option.map_eq_some_iff.1 (show(Tryz.prog.info? (Tryz.prog.elem 24)).map (·.size)=some 1 by kernel_rfl)
 have hi2:i.size=1:=hi2
 by_cases hc1:c=1
 ·refine⟨o,fun w=> ?_,.inr ⟨hc1,rfl⟩⟩
  rw[run_sliceAt_slice _ _ _ _ _ _ Tryz.underlying24,run_slice_l _ _ _ _ _ Tryz.underlying24 _ _ Zo Zo]
  simp[sizeOf,typeInfo,hi1,Result.andThen,sliced,Addr.add_lit,hc1]
 ·refine⟨o+1,fun w=> ?_,.inl rfl⟩
  rw[run_sliceAt_slice _ _ _ _ _ _ Tryz.underlying24,run_slice_l _ _ _ _ _ Tryz.underlying24 _ _ Zo Zo]
  have: ¬(c-1=0):=by omega
  simp[sizeOf,typeInfo,hi1,Result.andThen,sliced,Addr.add_lit,hi2]
  omega
theorem QRow.tail{w:World}{B:Nat}{s:S3}{x:Int}{l:List Int}(h:QRow w B s (x::l)):
  ∃t:S3,(∀w:World,(Instr.sliceAt 24 (.slice s.d s.n s.c) (some (ii 1)) none none).run Tryz.prog w=.ok (.slice t.d t.n t.c) w)/\QRow w B t l/\t.v.ownBlock=s.v.ownBlock:=by
 rcases h.2 with⟨_,e⟩ | ⟨g,o,cs,e1,e2,e3,e4,e5,e6,e7⟩
 ·cases e
 ·have hn:=h.1
  rw[List.length_cons] at hn
  obtain⟨o',hr,ho⟩:=Dj9 (g:=g) (o:=o) (n:=s.n) (c:=s.c) Zo e4 w
  refine⟨⟨some ⟨g,o',none⟩,s.n-1,s.c-1⟩,by rw[e1];exact hr,⟨by show s.n-1=_;omega,.inr ⟨g,o',cs,rfl,e2,e3, ?_, ?_, ?_, ?_⟩⟩, ?_⟩
  ·show s.n-1<=s.c-1;omega
  ·show s.c-1<=maxLen;omega
  ·show o'+(s.c-1)<=cs.size
   rcases ho with ho | ho
   ·omega
   ·omega
  ·intro j y hy
   have hj:=(List.getElem?_eq_some_iff.1 hy).1
   rcases ho with ho | ho
   ·have:=e7 (j+1) y hy
    rw[ho,Nat.add_assoc,Nat.add_comm 1 j]
    exact this
   ·omega
  ·unfold S3.v
   rw[e1]
   rfl
theorem QRow.app{w:World}{B:Nat}{s:S3}{l:List Int}(h:QRow w B s l)(hn:l.length<=100000000)(hB:B<=w.heap.size)(x:Int):
  ∃(s':S3) (w':World),(∀ty,(Builtin.append_ #[24,24] ty #[.slice s.d s.n s.c,.slice (some ⟨w.heap.size,0,none⟩) 1 1]).run Tryz.prog (w.alloc (.cells #[ii x] 3))=.ok (S3.v s') w')/\QRow w' B s' (l++[x])/\Rw w w' s s':=by
 rcases h.2 with⟨rfl,rfl⟩ | ⟨g,o,cs,e1,e2,e3,e4,e5,e6,e7⟩
 ·obtain⟨s',w',h1,h2,h3,h4⟩:=ZRow.app' (ZRow.nil w B) (by simp) hB x
  exact⟨s',w',h1,QRow.of_z h2,h3,h4⟩
 ·have hsn:=h.1
  have hgl:=e3.lt
  obtain⟨i,hi,hz0,hz1,hz2⟩:=An Jo
  have hx:=Blk.new w 3 #[ii x]
  have hw1:(w.alloc (.cells #[ii x] 3)).heap.size=w.heap.size+1:=World.size_alloc _ _
  have hcell: ∀(j:Nat) (u:Value),([ii x]:List Value)[j]? =some u->(w.alloc (.cells #[ii x] 3)).cell? ((⟨w.heap.size,0,none⟩:Addr).add j)=some u:=fun j u hu=>by
   rw[Ck,Nat.zero_add,hx.cell,<-Array.getElem?_toList]
   exact hu
  have hG:=e3.alloc (.cells #[ii x] 3)
  have hbl:Below w.heap.size w (w.alloc (.cells #[ii x] 3)):=B2 (Below.refl _ _) _
  generalize w.alloc (.cells #[ii x] 3)=u at hw1 hcell hG hbl ⊢
  have hown:s.v.ownBlock=some g:=by
   unfold S3.v
   rw[e1]
   rfl
  by_cases hc:s.n+1<=s.c
  ·have hr:=fun ty=>run_append_room_cells (P:=Tryz.prog) (w:=u) 24 ty 3 i Tryz.underlying24 hi g o s.n s.c ⟨w.heap.size,0,none⟩ 1 1 [ii x] (by rw[hz1];rfl) hcell (fun v hv=>by rw[List.mem_singleton.1 hv];rfl) hc
    (fun j hj=>by
     have hj':j<1:=hj
     rw[hG.cell,hz1,Nat.mul_one,Array.getElem?_eq_getElem Zo]
     rfl) (fun j hj=>hG.frozen _)
   refine⟨⟨some ⟨g,o,none⟩,s.n+1,s.c⟩,u.setCells g (o+s.n*i.size) [ii x],fun ty=>by rw[e1];exact hr ty, ?_, ?_⟩
   ·have hset:=Blk.setL [ii x] (o+s.n*i.size) _ _ hG
    refine⟨by show s.n+1=_;rw[List.length_append,hsn];rfl,.inr ⟨g,o,_,rfl,e2,hset,hc,e5, ?_,fun j y hy=> ?_⟩⟩
    ·simp only[List.foldl_cons,List.foldl_nil,Array.size_setIfInBounds]
     exact e6
    ·simp only[List.foldl_cons,List.foldl_nil]
     rw[hz1,Nat.mul_one,Array.getElem?_setIfInBounds]
     have hj:=(List.getElem?_eq_some_iff.1 hy).1
     rw[List.length_append,List.length_singleton] at hj
     by_cases hjl:j<l.length
     ·rw[if_neg Zo]
      rw[List.getElem?_append_left hjl] at hy
      exact e7 j y hy
     ·have:j=l.length:=by omega
      subst this
      rw[List.getElem?_append_right (Nat.le_refl _),Nat.sub_self] at hy
      injection hy with hy
      subst hy
      rw[if_pos Zo,if_pos Zo]
   ·exact⟨Moved.set (.of_below hbl) (.inl hown) _ _,.inl hown.symm⟩
  ·have hlo:(l.map (Value.int .i64)).length=s.n*1:=by rw[List.length_map,hsn,Nat.mul_one]
   obtain⟨v',w',hr,ho,hg⟩:=run_append_arg_grows (P:=Tryz.prog) (w:=u) 24 0 3 i _ 1 8 Tryz.underlying24 hi hz0 hz1 hz2 rfl Zo ⟨g,o,none⟩ s.n s.c (l.map (Value.int .i64)) hlo (fun j v hv=>by
    rw[List.getElem?_map] at hv
    cases hy:l[j]? with
    | none=>rw[hy] at hv;cases hv
    | some y=>
     rw[hy] at hv
     injection hv with hv
     subst hv
     rw[Ck,hG.cell]
     exact e7 j y hy) ⟨w.heap.size,0,none⟩ 1 1 [ii x] rfl hcell Zo (by simp only[maxLen];omega) Zo
   obtain⟨s',rfl,hs'⟩:=ARow.of_v ho
   have hZ:ZRow w' u.heap.size s' (l++[x]):=by
    unfold ZRow
    rw[List.length_append,List.map_append]
    rw[hsn] at hs'
    exact hs'
   refine⟨s',w',fun ty=>by rw[e1];exact Am hr ty,QRow.of_z (hZ.low Zo), ?_, ?_⟩
   ·exact⟨by have:=hg.size;omega,hg.os.trans hbl.os,hg.tape.trans hbl.tape,hg.output.trans hbl.output,fun b hb _=>(hg.block b Zo (fun e=>by cases e)).trans (hbl.block b hb)⟩
   ·rcases ARow.cases hs' with⟨q1,q2,q3⟩ | ⟨g',cs',q1,q2,q3,q4⟩
    ·simp at q3
    ·exact .inr ⟨g',q2,Zo⟩
def H3(N F:List Int)(o:Option Nat)(k:Nat):Option Nat:=
 if F.getD k (-1)<0 then o else match o with
  | none=>some k
  | some p=>if F.getD k (-1)<F.getD p (-1)\/(F.getD k (-1)=F.getD p (-1)/\N.getD k 0<N.getD p 0) then some k else some p
def P6(N F:List Int)(L:List Nat):Option Nat:=L.foldl (H3 N F) none
theorem Yz{N F:List Int}{n:Nat}{o:Option Nat}{k:Nat}(ho: ∀p,o=some p->p<n)(hk:k<n): ∀p,H3 N F o k=some p->p<n:=by
 intro p hp
 unfold H3 at hp
 split at hp
 ·exact ho p hp
 ·cases o with
  | none=>injection hp with hp;omega
  | some q=>
   simp only at hp
   split at hp
   ·injection hp with hp;omega
   ·exact ho p hp
theorem Hm{N F:List Int}{n:Nat}: ∀(L:List Nat) (o:Option Nat),(∀p,o=some p->p<n)->(∀k,k∈L->k<n)->∀p,L.foldl (H3 N F) o=some p->p<n
 | [],_,ho,_=>ho
 | k::r,o,ho,hL=>Hm r _ (Yz ho (hL k List.mem_cons_self)) fun x hx=>hL x (List.mem_cons_of_mem _ hx)
theorem Za{N F:List Int}{L:List Nat}{i k:Nat}(hx:L[i]? =some k):P6 N F (L.take (i+1))=H3 N F (P6 N F (L.take i)) k:=by
 unfold P6
 rw[List.take_add_one,hx,List.foldl_append]
 rfl
theorem G0{l:List Int}{k:Nat}{x d:Int}(h:l[k]? =some x):l.getD k d=x:=by
 rw[List.getD_eq_getElem?_getD,h]
 rfl
set_option maxHeartbeats 2000000 in
theorem Ku{w:World}{gp:Nat}{N:List Int}{To:List (List Int)}(hG:GrAt w gp (fun b=>b<w.heap.size) N To){S S':Nat->Prop}{la fa:Option Addr}{L:List Nat}{F:List Int}(hp:PathAt w S la (L.map fun k=>((k:Nat):Int)))(hq:PathAt w S' fa F)(hF:F.length=N.length)(hL: ∀k,k∈L->k<N.length)(hl:L.length<=1000000000)(lc fc:Nat):
  Calls Tryz.prog 34 #[pT gp,.slice la L.length lc,.slice fa F.length fc] w fun e w'=>e=.returned (ii (oI (P6 N F L)))/\Below w.heap.size w w':=by
 obtain⟨⟨nd,nc,td,tc,hX,hN,_⟩,hS,_,hf,_⟩:=hG
 refine B6 (vs:=[pT gp,.slice la L.length lc,.slice fa F.length fc]) 68 Tryz.func34 An0 Zk (by simp) fun a0 h0=> ?_
 unfold Yl
 refine Zs (Df0 h0 fun a1 h1=> ?_)
 refine Zs (Df1 h1 fun a2 h2=> ?_)
 refine wp_seq (Zs (Df2 h2 fun a3 h3=> ?_))
 refine wp_block ?_
 refine wp_loop (fun a' wr=> ∃i:Nat,i<=L.length/\Sl 68 a' [(8,ii (i:Int)),(7,ii (oI (P6 N F (L.take i)))),(0,pT gp),(1,.slice la L.length lc),(2,.slice fa F.length fc)]/\Below w.heap.size w wr) (fun a' _=>G1 L.length (F9 a' 8))
  ⟨0,Nat.zero_le _,h3.to ⟨rfl,rfl,rfl,rfl,rfl,trivial⟩,Below.refl _ _⟩ ?_
 rintro a4 w4 ⟨i,hi,h4,hb4⟩
 rw[h4.look 8 rfl,B4]
 unfold De9
 by_cases hlt:i<L.length
 ·refine wp_seq (Zs (Bd3 (ln:=L.length) (b13:=true) h4 rfl rfl (decide_eq_true Zo) fun a5 h5=>wpn (h5.look 13 rfl) ?_))
  obtain⟨k,hk⟩: ∃k,L[i]? =some k:=⟨L[i],List.getElem?_eq_getElem hlt⟩
  have hkn:k<N.length:=hL k (List.mem_of_getElem? hk)
  have hX4:Blk w4 gp 33 #[.slice nd N.length nc,.slice td To.length tc]:=(hb4.block gp hS).trans hX
  have hp4:PathAt w4 (fun b=>b<w.heap.size) la (L.map fun k=>((k:Nat):Int)):=hp.keep (fun b _ hl=>hb4.block b hl) (fun b _ hl=>hl)
  have hq4:PathAt w4 (fun b=>b<w.heap.size) fa F:=hq.keep (fun b _ hl=>hb4.block b hl) (fun b _ hl=>hl)
  have hN4:PathAt w4 (fun b=>b<w.heap.size) nd N:=hN.keep (fun b _ hl=>hb4.block b hl) (fun b _ hl=>hl)
  obtain⟨g,o,hla,hc⟩:=G9 hp4 (i:=i) (x:=(k:Int)) (by rw[List.getElem?_map,hk];rfl)
  obtain⟨x,hx⟩: ∃x,F[k]? =some x:=⟨F[k]'Zo,List.getElem?_eq_getElem _⟩
  obtain⟨u,hu⟩: ∃u,N[k]? =some u:=⟨N[k]'Zo,List.getElem?_eq_getElem _⟩
  obtain⟨g2,o2,hfa,hc2⟩:=G9 hq4 hx
  obtain⟨g3,o3,hnd,hc3⟩:=G9 hN4 hu
  obtain⟨p,hpp⟩: ∃p,p=P6 N F (L.take i):=⟨_,rfl⟩
  have hpin: ∀q,p=some q->q<N.length:=fun q hq'=>Hm (L.take i) none (fun _ h=>by cases h) (fun z hz=>hL z (List.mem_of_mem_take hz)) q (by rw[<-hq',hpp];rfl)
  have hbt:=Za (N:=N) (F:=F) hk
  rw[<-hpp] at hbt h5
  obtain⟨mid,hmid⟩: ∃mid:Act->World->Prop,mid=fun a' w'=>Sl 68 a' [(8,ii (i:Int)),(7,ii (oI (H3 N F p k))),(0,pT gp),(1,.slice la L.length lc),(2,.slice fa F.length fc)]/\Below w.heap.size w w':=⟨_,rfl⟩
  refine wp_seq (Code.wp_mono (Q:=fun e a' w'=>e=.normal/\mid a' w') ?_ ?_)
  ·rintro e a7 w7 ⟨rfl,hr⟩
   rw[hmid] at hr
   obtain⟨h7,hb7⟩:=hr
   show Code.wp _ (M4 4) _ a7 w7
   refine Zl (Df3 h7 rfl Zo fun a8 h8=>⟨⟨i+1,hlt, ?_,hb7⟩, ?_⟩)
   ·rw[hbt]
    exact h8.to ⟨rfl,rfl,rfl,rfl,rfl,trivial⟩
   ·rw[h8.look 8 rfl]
    show G1 L.length (ii ((i+1:Nat):Int))<_
    rw[B4]
    omega
  ·refine wp_block ?_
   refine Zs (Df4 (k:=k) (ld:=la) h5 rfl rfl (by rw[hla];exact fun w=>D7 hlt w) (H9 Tryz.underlying3 rfl hc) fun a6 h6=> ?_)
   by_cases hneg:x<0
   ·refine wp_seq (Zs (Bd4 (x:=x) (b24:=true) (fd:=fa) h6 rfl rfl (by rw[hfa];exact fun w=>D7 Zo w) (H9 Tryz.underlying3 rfl hc2) (decide_eq_true hneg) fun a7 h7=>wp_cond_true (h7.look 24 rfl) (wp_exit (A8 (B8 ⟨rfl, ?_⟩)))))
    rw[hmid]
    have:H3 N F p k=p:=by
     unfold H3
     rw[G0 hx,if_pos hneg]
    rw[this]
    exact⟨h7.to ⟨rfl,rfl,rfl,rfl,rfl,trivial⟩,hb4⟩
   ·refine wp_seq (Zs (Bd4 (x:=x) (b24:=false) (fd:=fa) h6 rfl rfl (by rw[hfa];exact fun w=>D7 Zo w) (H9 Tryz.underlying3 rfl hc2) (decide_eq_false hneg) fun a7 h7=>B9 (h7.look 24 rfl) ?_))
    have take_k: ∀(a8:Act) (w8:World),Below w.heap.size w w8->Sl 68 a8 [(65,.bool true),(9,ii (k:Int)),(8,ii (i:Int)),(0,pT gp),(1,.slice la L.length lc),(2,.slice fa F.length fc)]->H3 N F p k=some k->(Code.cond (.tmp 65) (M4 8) .skip).wp Tryz.prog (Exit.inBlock 1 fun e a' w'=>e=.normal/\mid a' w') a8 w8:=fun a8 w8 hb8 h8 hbk=>by
     refine wp_cond_true (h8.look 65 rfl) (Zl (Df5 h8 rfl fun a9 h9=>B1 ⟨rfl, ?_⟩))
     rw[hmid,hbk]
     exact⟨h9.to ⟨rfl,rfl,rfl,rfl,rfl,trivial⟩,hb8⟩
    cases hpo:p with
    | none=>
     rw[hpo] at h7
     refine Zs (An1 (o:= -1) h7 rfl Zd fun a8 md h8=>take_k a8 _ (B3 hb4 _) (h8.to ⟨rfl,rfl,rfl,rfl,rfl,rfl,trivial⟩) ?_)
     unfold H3
     rw[G0 hx,if_neg hneg,hpo]
    | some q=>
     have hqn:=hpin q hpo
     rw[hpo] at h7
     obtain⟨y,hy⟩: ∃y,F[q]? =some y:=⟨F[q]'Zo,List.getElem?_eq_getElem _⟩
     obtain⟨v,hv⟩: ∃v,N[q]? =some v:=⟨N[q]'Zo,List.getElem?_eq_getElem _⟩
     obtain⟨g4,o4,hfa4,hc4⟩:=G9 hq4 hy
     obtain⟨g5,o5,hnd5,hc5⟩:=G9 hN4 hv
     have hbe:H3 N F p k=if x<y\/(x=y/\u<v) then some k else some q:=by
      unfold H3
      rw[G0 hx,if_neg hneg,hpo]
      simp only[G0 hy,G0 hu,G0 hv]
     by_cases hxy:x<y
     ·refine Zs (Ym (o:=(q:Int)) (x:=x) (y:=y) (fd:=fa) h7 rfl rfl rfl (decide_eq_false Zo) (by rw[hfa];exact fun w=>D7 Zo w) (H9 Tryz.underlying3 rfl hc2) (by rw[hfa4];exact fun w=>D7 Zo w) (H9 Tryz.underlying3 rfl hc4) (decide_eq_true hxy) fun a8 md h8=>take_k a8 _ (B3 hb4 _) (h8.to ⟨rfl,rfl,rfl,rfl,rfl,rfl,trivial⟩) ?_)
      rw[hbe,if_pos (.inl hxy)]
     ·have stay: ∀(a8:Act) (w8:World),Below w.heap.size w w8->Sl 68 a8 [(65,.bool false),(7,ii (q:Int)),(8,ii (i:Int)),(0,pT gp),(1,.slice la L.length lc),(2,.slice fa F.length fc)]->H3 N F p k=some q->(Code.cond (.tmp 65) (M4 8) .skip).wp Tryz.prog (Exit.inBlock 1 fun e a' w'=>e=.normal/\mid a' w') a8 w8:=fun a8 w8 hb8 h8 hbk=>by
       refine B9 (h8.look 65 rfl) (B1 ⟨rfl, ?_⟩)
       rw[hmid,hbk]
       exact⟨h8.to ⟨rfl,rfl,rfl,rfl,rfl,trivial⟩,hb8⟩
      by_cases he:x=y
      ·by_cases huv:u<v
       ·refine Zs (Fy (o:=(q:Int)) (x:=x) (y:=y) (u:=u) (v:=v) (b63:=true) (fd:=fa) (nd:=nd) h7 rfl rfl rfl rfl (decide_eq_false Zo) (by rw[hfa];exact fun w=>D7 Zo w) (H9 Tryz.underlying3 rfl hc2) (by rw[hfa4];exact fun w=>D7 Zo w) (H9 Tryz.underlying3 rfl hc4) (decide_eq_false hxy) (decide_eq_true he) (A9 hX4 Tryz.underlying24 rfl rfl) (by rw[hnd];exact fun w=>D7 hkn w) (H9 Tryz.underlying3 rfl hc3) (by rw[hnd5];exact fun w=>D7 hqn w) (H9 Tryz.underlying3 rfl hc5) (decide_eq_true huv) fun a8 md h8=>take_k a8 _ (B3 hb4 _) (h8.to ⟨rfl,rfl,rfl,rfl,rfl,rfl,trivial⟩) ?_)
        rw[hbe,if_pos (.inr ⟨he,huv⟩)]
       ·refine Zs (Fy (o:=(q:Int)) (x:=x) (y:=y) (u:=u) (v:=v) (b63:=false) (fd:=fa) (nd:=nd) h7 rfl rfl rfl rfl (decide_eq_false Zo) (by rw[hfa];exact fun w=>D7 Zo w) (H9 Tryz.underlying3 rfl hc2) (by rw[hfa4];exact fun w=>D7 Zo w) (H9 Tryz.underlying3 rfl hc4) (decide_eq_false hxy) (decide_eq_true he) (A9 hX4 Tryz.underlying24 rfl rfl) (by rw[hnd];exact fun w=>D7 hkn w) (H9 Tryz.underlying3 rfl hc3) (by rw[hnd5];exact fun w=>D7 hqn w) (H9 Tryz.underlying3 rfl hc5) (decide_eq_false huv) fun a8 md h8=>stay a8 _ (B3 hb4 _) (h8.to ⟨rfl,rfl,rfl,rfl,rfl,rfl,trivial⟩) ?_)
        rw[hbe,if_neg Zo]
      ·refine Zs (Rk (o:=(q:Int)) (x:=x) (y:=y) (fd:=fa) h7 rfl rfl rfl (decide_eq_false Zo) (by rw[hfa];exact fun w=>D7 Zo w) (H9 Tryz.underlying3 rfl hc2) (by rw[hfa4];exact fun w=>D7 Zo w) (H9 Tryz.underlying3 rfl hc4) (decide_eq_false hxy) (decide_eq_false he) fun a8 md h8=>stay a8 _ (B3 hb4 _) (h8.to ⟨rfl,rfl,rfl,rfl,rfl,rfl,trivial⟩) ?_)
       rw[hbe,if_neg Zo]
 ·refine wp_seq (Zs (Bd3 (ln:=L.length) (b13:=false) h4 rfl rfl (decide_eq_false Zo) fun a5 h5=>C9 (h5.look 13 rfl) ?_))
  refine A8 (A8 (B8 ?_))
  refine Zs (Df6 h5 rfl fun a6 h6=>wp_ret ?_)
  refine G7 rfl h6 rfl ⟨?_,hb4⟩
  obtain rfl:i=L.length:=by omega
  rw[List.take_length]
def FB(w:World)(g:Nat)(F:List Int):Prop:=Blk w g 3 (F.map (Value.int .i64)).toArray
theorem FB.cell{w:World}{g:Nat}{F:List Int}(h:FB w g F){i:Nat}{x:Int}(hx:F[i]? =some x):w.cell? ⟨g,0+i*1,none⟩=some (ii x):=by
 unfold FB at h
 rw[h.cell,Nat.zero_add,Nat.mul_one,List.getElem?_toArray,List.getElem?_map,hx]
 rfl
theorem FB.set{w:World}{g:Nat}{F:List Int}(h:FB w g F)(i:Nat)(x:Int):FB (w.setCells g (0+i*1) [ii x]) g (F.set i x):=by
 have:=Blk.setL [ii x] (0+i*1) _ _ h
 simp only[List.foldl_cons,List.foldl_nil,List.setIfInBounds_toArray,Nat.zero_add,Nat.mul_one] at this
 unfold FB
 rw[List.map_set,Nat.zero_add,Nat.mul_one]
 exact this
theorem FB.st{w:World}{g:Nat}{F:List Int}(h:FB w g F){i:Nat}(hi:i<F.length)(x:Int):((Instr.storeAt 3 (.pointer (some ⟨g,0+i*1,none⟩)) (ii x)).run Tryz.prog w=.ok () (w.setCells g (0+i*1) [ii x])):=
 Cd3 (O5 h (by rw[List.size_toArray,List.length_map];omega)) Zk rfl
theorem FB.path{w:World}{g:Nat}{F:List Int}(h:FB w g F):PathAt w (fun b=>b=g) (some ⟨g,0,none⟩) F:=
 .inr ⟨g,0,rfl,rfl,fun j x hx=>by
  have:=h.cell hx
  rw[Nat.mul_one] at this
  exact this⟩
theorem Dk0(n:Nat)(hn:n<=1000000)(w:World): ∃w',(Instr.makeSlice 24 (ii (n:Int)) (ii (n:Int))).run Tryz.prog w=.ok (.slice (some ⟨w.heap.size,0,none⟩) n n) w'/\FB w' w.heap.size (List.replicate n 0)/\Below w.heap.size w w':=by
 obtain⟨i,hi,hz0,hz1,hz2⟩:=An Jo
 obtain⟨w',h1,h2,h3⟩:=run_make_full (P:=Tryz.prog) w w.heap.size 24 3 i _ 1 Tryz.underlying24 hi hz0 hz1 .i64 .i64 n (by rw[hz2];omega) (by unfold maxLen;omega) (Nat.le_refl _)
 refine⟨w',h1, ?_,J7 h3⟩
 rcases h2.2 with⟨e,_⟩ | ⟨g,cap,cur,e,r1,r2,r3,r4,r5,r6⟩
 ·cases e
 ·injection e with e1 e2 e3
  injection e1 with e1
  injection e1 with e1
  subst e1 e3
  unfold FB
  have:cur=((List.replicate n (0:Int)).map (Value.int .i64)).toArray:=by
   apply Array.ext'
   rw[Nat.mul_one] at r5 r6
   rw[List.take_of_length_le (by rw[Array.length_toList];omega)] at r6
   rw[r6]
   show(madeCells #[ii 0] n).toList=_
   rw[toList_madeCells_one]
   simp
  rw[<-this]
  exact r2
def Cd8(N:List Int)(F:List Int)(st:Nat)(x:Int):Bool:=match gAt N x with
 | some n=>decide (F.getD n (-1)=(st:Int)-1)
 | none=>false
theorem Kv{N F:List Int}{st:Nat}{x:Int}(h:gAt N x=none):Cd8 N F st x=false:=by
 unfold Cd8
 rw[h]
theorem Dq{N F:List Int}{st:Nat}{x:Int}{n:Nat}(h:gAt N x=some n):Cd8 N F st x=decide (F.getD n (-1)=(st:Int)-1):=by
 unfold Cd8
 rw[h]
def P7(N:List Int)(F:List Int)(st:Nat)(r:List Int):Bool:=r.any (Cd8 N F st)
def Na(N:List Int)(To:List (List Int))(st:Nat)(F:List Int)(i:Nat):List Int:=
 if 0<=F.getD i (-1) then F else if P7 N F st (To.getD i []) then F.set i (st:Int) else F
def Au(N:List Int)(To:List (List Int))(F:List Int)(st:Nat):List Int:=(List.range N.length).foldl (Na N To st) F
def Bi(N:List Int)(To:List (List Int))(tz:Nat):List Int:=(List.range N.length).foldl (fun F s=>Au N To F (s+1)) ((List.replicate N.length (-1)).set tz 0)
theorem Bx6{N:List Int}{To:List (List Int)}{st:Nat}{F:List Int}{i:Nat}:(Na N To st F i).length=F.length:=by
 unfold Na
 split
 ·rfl
 ·split
  ·rw[List.length_set]
  ·rfl
theorem Ho{N:List Int}{To:List (List Int)}{st:Nat}: ∀(l:List Nat) (F:List Int),(l.foldl (Na N To st) F).length=F.length
 | [],_=>rfl
 | i::r,F=>(Ho r _).trans Bx6
theorem Kw{N:List Int}{To:List (List Int)}{st:Nat}{F:List Int}:(Au N To F st).length=F.length:=Ho _ _
def Q3(N:List Int)(To:List (List Int))(F:List Int)(st i:Nat):List Int:=(List.range i).foldl (Na N To st) F
theorem Kx{N:List Int}{To:List (List Int)}{F:List Int}{st i:Nat}:Q3 N To F st (i+1)=Na N To st (Q3 N To F st i) i:=by
 unfold Q3
 rw[List.range_succ,List.foldl_append]
 rfl
theorem part_len{N:List Int}{To:List (List Int)}{F:List Int}{st i:Nat}:(Q3 N To F st i).length=F.length:=Ho _ _
def Z4(N:List Int)(To:List (List Int))(F:List Int)(s:Nat):List Int:=(List.range s).foldl (fun F s=>Au N To F (s+1)) F
theorem U4{N:List Int}{To:List (List Int)}{F:List Int}{s:Nat}:Z4 N To F (s+1)=Au N To (Z4 N To F s) (s+1):=by
 unfold Z4
 rw[List.range_succ,List.foldl_append]
 rfl
theorem Dr{N:List Int}{To:List (List Int)}{F:List Int}: ∀s,(Z4 N To F s).length=F.length
 | 0=>rfl
 | s+1=>by rw[U4,Kw,Dr s]
end Go.Proofs.YtbjegfpfmnleeaaGreatDoor
