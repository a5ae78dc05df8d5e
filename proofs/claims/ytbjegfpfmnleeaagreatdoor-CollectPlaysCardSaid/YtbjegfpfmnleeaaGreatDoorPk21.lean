/-
   Written by an AI agent.
-/
import Derived.Test.YtbjegfpfmnleeaaGreatDoorPk20
namespace Go.Proofs.YtbjegfpfmnleeaaGreatDoor
open Go.RowKit Go.Sort
set_option maxRecDepth 100000
structure Rw (w w':World) (s t:S3):Prop where
 m:Moved (fun b=>s.v.ownBlock=some b) w w'
 o:t.v.ownBlock=s.v.ownBlock\/∃g,t.v.ownBlock=some g/\w.heap.size<=g
theorem Rw.of_below{w w':World}(h:Below w.heap.size w w')(s:S3):Rw w w' s s:=⟨.of_below h,.inl rfl⟩
theorem Rw.trans{a b c:World}{s t u:S3}(h:Rw a b s t)(k:Rw b c t u):Rw a c s u:=by
 have hz:=h.m.size
 refine⟨h.m.trans (k.m.more fun x hx=> ?_), ?_⟩
 ·rcases h.o with e | ⟨g,e,hg⟩
  ·exact .inl (by rw[<-e];exact hx)
  ·rw[e] at hx
   injection hx with hx
   exact .inr Zo
 ·rcases k.o with e | ⟨g,e,hg⟩
  ·rcases h.o with e' | ⟨g,e',hg⟩
   ·exact .inl (e.trans e')
   ·exact .inr ⟨g,e.trans e',hg⟩
  ·exact .inr ⟨g,e,Zo⟩
theorem Rw.post{a b c:World}{s t:S3}(h:Rw a b s t)(k:Below b.heap.size b c):Rw a c s t:=h.trans (.of_below k t)
theorem Rw.pre{a b c:World}{s t:S3}(k:Below a.heap.size a b)(h:Rw b c s t):Rw a c s t:=(Rw.of_below k s).trans h
theorem Rw.blk{w w':World}{s t:S3}(h:Rw w w' s t){b:Nat}(hb:b<w.heap.size)(hn:s.v.ownBlock≠some b):w'.heap[b]? =w.heap[b]? :=h.m.block b hb hn
theorem Rw.bel{w w':World}{s t:S3}{B:Nat}(h:Rw w w' s t)(hs: ∀g,s.v.ownBlock=some g->B<=g)(hB:B<=w.heap.size):Below B w w':=F4 h.m (fun b hb=>hs b hb) hB
theorem Rw.ne{w w':World}{s t:S3}(h:Rw w w' s t){b:Nat}(hb:b<w.heap.size)(hn:s.v.ownBlock≠some b):t.v.ownBlock≠some b:=fun e=>by
 rcases h.o with q | ⟨g,q,hg⟩
 ·exact hn (q.symm.trans e)
 ·have:=q.symm.trans e
  injection this with this
  omega
def M8:Fo->List Int
 | .nil=>[]
 | .cons h k r=>(if h.obj=0 then[] else[h.obj])++(M8 k++M8 r)
theorem Ut(f:Fo){i:Nat}{h:Hd}{k:Fo}(e:f.get i=some (h,k)):M8 (f.drop i)=(if h.obj=0 then[] else[h.obj])++(M8 k++M8 (f.drop (i+1))):=by
 rw[Fo.drop_get f i h k e]
 rfl
theorem M2{w:World}{b o:Nat}{d:Dt}{m:Dm}(h:CellsAt w b o (d.cs m)):Lds Tryz.prog C7 (.pointer (some ⟨b,o,none⟩)) (.agg (d.cs m)) w:=
 Bo7 (cs:=(d.cs m).toList) Tryz.underlying53 rfl K4 (fun j v hj=>h j v (by rw[<-Array.getElem?_toList];exact hj))
def Ah9(f:Fo):Prop:= ∀(w:World) (B:Nat) (S:Nat->Prop) (s:S3) (l:List Int) (ia:Option Addr) (ic:Nat),ZRow w B s l->B<=w.heap.size->SlAt w S ia f->(∀b,S b->s.v.ownBlock≠some b)->(l++M8 f).length<=1000000000->
 Calls Tryz.prog 38 #[.slice s.d s.n s.c,.slice ia f.len ic] w fun e w'=> ∃t:S3,e=.returned (.slice t.d t.n t.c)/\(ZRow w' B t (l++M8 f)/\Rw w w' s t)
set_option maxHeartbeats 1000000 in
theorem Uu(f:Fo)(hf:f.len<=1034834473170)(hk: ∀i a k,f.get i=some (a,k)->Ah9 k):Ah9 f:=by
 intro w B S s l ia ic hZ hB hS hne hlen
 replace hS:SlAt w (fun b=>S b/\b<w.heap.size) ia f:=hS.keep (fun _ _ _=>rfl) (fun b h1 h2=>⟨h1,h2⟩)
 refine B6 (vs:=[.slice s.d s.n s.c,.slice ia f.len ic]) 29 Tryz.func38 Bi0 Zk (by simp) fun a0 h0=> ?_
 unfold At6
 refine Zs (Dv6 h0 fun a1 h1=> ?_)
 refine wp_seq (Zs (Dv7 h1 rfl fun a2 h2=> ?_))
 refine wp_block ?_
 refine wp_loop (fun a' wr=> ∃(i:Nat) (t:S3) (P:List Int),i<=f.len/\Sl 29 a' [(9,ii (i:Int)),(8,ii (f.len:Int)),(7,.slice ia f.len ic),(0,.slice t.d t.n t.c)]/\ZRow wr B t P/\Rw w wr s t/\P++M8 (f.drop i)=l++M8 f) (fun a' _=>G1 f.len (F9 a' 9))
  ⟨0,s,l,Nat.zero_le _,h2.to ⟨rfl,rfl,rfl,rfl,trivial⟩,hZ,.of_below (Below.refl _ _) s,by rw[Fo.drop_zero]⟩ ?_
 rintro a4 w4 ⟨i,t,P,hi,h4,hZ4,hW4,hP⟩
 rw[h4.look 9 rfl,B4]
 unfold Es4
 have hPl:(P++M8 (f.drop i)).length<=1000000000:=by rw[hP];exact hlen
 rw[List.length_append] at hPl
 have hz4:=hW4.m.size
 by_cases hlt:i<f.len
 ·refine Zs (Cj0 h4 rfl rfl (decide_eq_true Zo) fun a5 h5=> ?_)
  refine wp_seq (wpn (h5.look 10 rfl) ?_)
  obtain⟨h,k,hg⟩:=Fo.get_lt f i hlt
  have hS4:SlAt w4 (fun b=>S b/\b<w.heap.size) ia f:=hS.keep (fun b hb hl=>hW4.blk hb.2 (hne b hb.1)) (fun _ hb _=>hb)
  obtain⟨b,o,rfl,hSb,pa,pc,ja,jc,hc,hd⟩:=hS4.get hg
  refine wp_seq (wp_block ?_)
  have hX:=Q8 (w:=w4) ⟨h,k⟩ ⟨pa,pc,ja,jc⟩
  refine Zs (Dv8 (d:=⟨h,k⟩) (m:=⟨pa,pc,ja,jc⟩) h5 rfl rfl (fun w=>J2 i Tryz.underlying23 K4 hlt w) (M2 (d:=⟨h,k⟩) (m:=⟨pa,pc,ja,jc⟩) hc) (D1 (Blk.new w4 C7 zA) (by show 0+11<=11;omega)) fun a6 h6=> ?_)
  change Code.wp _ _ _ a6 ((w4.alloc (.cells zA C7)).setCells w4.heap.size 0 (Dt.cs ⟨h,k⟩ ⟨pa,pc,ja,jc⟩).toList)
  generalize (w4.alloc (.cells zA C7)).setCells w4.heap.size 0 (Dt.cs ⟨h,k⟩ ⟨pa,pc,ja,jc⟩).toList=w6 at hX ⊢
  obtain⟨hB6,hb6⟩:=hX
  have hZ6:=hZ4.old hb6
  have hW6:=hW4.post hb6
  have hz6:=hb6.size
  have hd6:DatAt w6 (fun b=>S b/\b<w.heap.size) h k pa pc ja jc:=hd.keep (fun x hx hl=>hb6.block x hl) (fun _ hx _=>hx)
  rw[Ut f hg] at hP hPl
  simp only[List.length_append] at hPl
  have hit:w4.heap.size<w6.heap.size:=hB6.lt
  obtain⟨rest,hrest⟩: ∃rest:Act->World->Prop,rest=fun a7 w7=> ∃(t7:S3),Sl 29 a7 [(9,ii (i:Int)),(8,ii (f.len:Int)),(7,.slice (some ⟨b,o,none⟩) f.len ic),(0,.slice t7.d t7.n t7.c),(6,pT w4.heap.size)]/\ZRow w7 B t7 (P++(if h.obj=0 then[] else[h.obj]))/\Rw w6 w7 t t7:=⟨_,rfl⟩
  have hne4: ∀x,x<w.heap.size->S x->t.v.ownBlock≠some x:=fun x hx hs=>hW4.ne hx (hne x hs)
  have hBo6:=fun g hg=>(ARow.block hZ6 (g:=g) hg)
  refine wp_seq (Code.wp_mono (Q:=fun e a' w'=>e=.normal/\rest a' w') ?_ ?_)
  ·rintro e a7 w7 ⟨rfl,hr⟩
   rw[hrest] at hr
   obtain⟨t7,h7,hZ7,hW7⟩:=hr
   have hz7:=hW7.m.size
   have hX7:Blk w7 w4.heap.size C7 (Dt.cs ⟨h,k⟩ ⟨pa,pc,ja,jc⟩):=(hW7.blk hit (fun e=>by have:=(ARow.block hZ4 e).2;omega)).trans hB6
   have hd7:SlAt w7 (fun b=>S b/\b<w.heap.size) ja k:=hd6.kids.keep (fun x hx hl=>hW7.blk hl (hne4 x hx.2 hx.1)) (fun _ hx _=>hx)
   have hlen7:((P++(if h.obj=0 then[] else[h.obj]))++M8 k).length<=1000000000:=by simp only[List.length_append];omega
   show Code.wp _ (Fp 6) _ a7 w7
   refine Zl (Dw0 (C0:=fun t8 w8=>ZRow w8 B t8 ((P++(if h.obj=0 then[] else[h.obj]))++M8 k)/\Rw w7 w8 t7 t8) h7 rfl rfl (A9 hX7 Tryz.underlying23 rfl rfl) (hk i h k hg w7 B _ t7 _ ja jc hZ7 Zo hd7 (fun x hx=>hW7.ne Zo (hne4 x hx.2 hx.1)) hlen7) fun a8 t8 w8 hq h8=> ?_)
   obtain⟨hZ8,hW8⟩:=hq
   refine B1 ?_
   show Code.wp _ (Fp 7) _ a8 w8
   refine Zl (Dw1 h8 rfl Zo fun a9 h9=>⟨⟨i+1,t8,_,hlt, ?_,hZ8,(hW6.trans hW7).trans hW8, ?_⟩, ?_⟩)
   ·exact h9.to ⟨rfl,rfl,rfl,rfl,trivial⟩
   ·rw[<-hP]
    simp only[List.append_assoc]
   ·rw[h9.look 9 rfl]
    show G1 f.len (ii ((i+1:Nat):Int))<_
    rw[B4]
    omega
  ·by_cases hz:h.obj=0
   ·refine Zs (Cj1 (o:=h.obj) (b16:=false) h6 rfl (A9 hB6 Tryz.underlying3 rfl rfl) (decide_eq_false (by simpa using hz)) fun a7 h7=>B9 (h7.look 16 rfl) ⟨rfl, ?_⟩)
    rw[hrest]
    refine⟨t,h7.to ⟨rfl,rfl,rfl,rfl,rfl,trivial⟩, ?_,.of_below (Below.refl _ _) t⟩
    rw[if_pos hz,List.append_nil]
    exact hZ6
   ·refine Zs (Cj1 (o:=h.obj) (b16:=true) h6 rfl (A9 hB6 Tryz.underlying3 rfl rfl) (decide_eq_true hz) fun a7 h7=> ?_)
    refine wp_cond_true (h7.look 16 rfl) (Zl (Dv9 (o:=h.obj) (C0:=fun _ v u=>ZRow u B v (P++[h.obj])/\Rw w6 u t v) h7 rfl rfl (A9 hB6 Tryz.underlying3 rfl rfl) (fun ty=> ?_) fun a8 t8 w8 hq h8=> ?_))
    ·obtain⟨s',u,r1,r2,r3,r4⟩:=ZRow.app hZ6 Zo Zo h.obj ty
     exact⟨s',u,r1,r2,r3,r4.imp_right fun e=>⟨_,e,Zo⟩⟩
    ·refine⟨rfl, ?_⟩
     rw[hrest]
     refine⟨t8,h8.to ⟨rfl,rfl,rfl,rfl,rfl,trivial⟩, ?_,hq.2⟩
     rw[if_neg hz]
     exact hq.1
 ·refine Zs (Cj0 h4 rfl rfl (decide_eq_false Zo) fun a5 h5=> ?_)
  refine wp_seq (C9 (h5.look 10 rfl) ?_)
  refine A8 (A8 (B8 ?_))
  obtain rfl:i=f.len:=by omega
  refine Zs (Dw2 h5 rfl fun a6 h6=>wp_ret ?_)
  rw[Fo.drop_len f _ (Nat.le_refl _)] at hP
  have hP':P=l++M8 f:=by simpa[M8] using hP
  subst hP'
  exact G7 rfl h6 rfl ⟨t,rfl,hZ4,hW4⟩
theorem Gl: ∀(f:Fo),f.ok->∀i a k,f.get i=some (a,k)->Ah9 k
 | .nil,_,i,_,_,e=>by cases e
 | .cons h k r,ho,0,a,k',e=>by
  simp only[Fo.get,Option.some.injEq,Prod.mk.injEq] at e
  obtain⟨rfl,rfl⟩:=e
  exact Uu k ho.2.2.2 (Gl k ho.2.1)
 | .cons h k r,ho,i+1,a,k',e=>Gl r ho.2.2.1 i a k' e
theorem Ai0(f:Fo)(ho:f.ok)(hf:f.len<=1034834473170):Ah9 f:=Uu f hf (Gl f ho)
end Go.Proofs.YtbjegfpfmnleeaaGreatDoor
