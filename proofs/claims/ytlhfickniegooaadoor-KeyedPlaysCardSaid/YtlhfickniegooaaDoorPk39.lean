/-
   Written by an AI agent.
-/
import Derived.Test.YtlhfickniegooaaDoorPk21
import Derived.Test.YtlhfickniegooaaDoorPk38
import Derived.LoopN
namespace Go.Proofs.YtlhfickniegooaaDoor
open Go.RowKit
set_option maxRecDepth 100000
section
variable {w w':World} {m:Nat} {R:List En} {D O:Nat->Prop}
theorem MapAt.dlt(h:MapAt w m R D O): ∀b,D b->b<w.heap.size:=let⟨_,_,_,_,_,_,_,_,h3,_⟩:=h;h3.dlt
theorem MapAt.olt(h:MapAt w m R D O): ∀b,O b->b<w.heap.size:=let⟨_,_,_,_,_,_,_,_,_,_,_,_,_,_,_,o⟩:=h;o
theorem MapAt.keys(h:MapAt w m R D O):KeysOk R:=let⟨_,_,_,_,_,_,_,_,_,_,_,k,_⟩:=h;k
theorem MapAt.oks(h:MapAt w m R D O){e:En}(he:e∈R):e.key.ok/\e.val.ok:=let⟨_,_,_,_,_,_,_,_,h3,_⟩:=h;⟨(h3.ok e he).1,(h3.ok e he).2.1⟩
theorem Blk.stay{g:Nat}{t:TypeId}{cs:Array Value}(h:Blk w g t cs)(k:w'.heap[g]? =w.heap[g]?):Blk w' g t cs:=k.trans h
theorem MapAt.keep(h:MapAt w m R D O)(hs:w.heap.size<=w'.heap.size)(hk: ∀b,O b\/D b->w'.heap[b]? =w.heap[b]?):MapAt w' m R D O:=by
  obtain⟨hb,n,H,N,B,A,n0,n1,hR,h4,h5,h6,o1,o2,o3,o4⟩:=h
  refine⟨hb,n,H,N,B,A,n0,n1, ?_,h4,h5,h6,o1,o2,o3,fun b hb=>Nat.lt_of_lt_of_le (o4 b hb) hs⟩
  exact { map := let ⟨cs, h1, h2⟩ := hR.map; ⟨cs, h1.stay (hk _ (.inl o1)), h2⟩
          heads:=let⟨t,hs,h1,h2⟩:=hR.heads;⟨t,hs,h1.stay (hk _ (.inl o2)),h2⟩
          ent:=fun e he=>let⟨ma,mb,h1,h2,h3⟩:=hR.ent e he;⟨ma,mb,h1.stay (hk _ (.inl (o3 e he))),h2.keep (fun b hb _=>hk b (.inr hb)) (fun _ h _=>h),h3.keep (fun b hb _=>hk b (.inr hb)) (fun _ h _=>h)⟩
          nd:=hR.nd
          far:=hR.far
          out:=hR.out
          ok:=hR.ok
          dlt:=fun b hd=>Nat.lt_of_lt_of_le (hR.dlt b hd) hs}
end
structure KS (w0:World) (K:Nat->Prop) (u:World) (m:Nat) (R:List En) (D O:Nat->Prop):Prop where
 map:MapAt u m R D O
 lo: ∀b,O b\/D b->w0.heap.size<=b/\¬K b
 kl: ∀b,K b->b<u.heap.size
 low:Below w0.heap.size w0 u
section
variable {w0 u u':World} {K:Nat->Prop} {m:Nat} {R:List En} {D O:Nat->Prop}
theorem KS.old(h:KS w0 K u m R D O)(hb:Below u.heap.size u u'):KS w0 K u' m R D O:=
 ⟨h.map.old hb,h.lo,fun b hk=>Nat.lt_of_lt_of_le (h.kl b hk) hb.size,bl_trans h.low hb⟩
theorem KS.add(h:KS w0 K u m R D O)(hb:Below u.heap.size u u'){K':Nat->Prop}(hK: ∀b,K' b->K b\/(u.heap.size<=b/\b<u'.heap.size)):KS w0 K' u' m R D O:=
 ⟨h.map.old hb,fun b hb'=>⟨(h.lo b hb').1,fun hk=>by
   rcases hK b hk with h1 | h1
   ·exact(h.lo b hb').2 h1
   ·have:=hb'.elim (h.map.olt b) (h.map.dlt b)
    omega⟩,
  fun b hk=>(hK b hk).elim (fun h1=>Nat.lt_of_lt_of_le (h.kl b h1) hb.size) (fun h1=>h1.2),bl_trans h.low hb⟩
theorem KS.set(h:KS w0 K u m R D O){g:Nat}(hg:K g)(hl:w0.heap.size<=g)(o:Nat)(vs:List Value):KS w0 K (u.setCells g o vs) m R D O:=
 ⟨h.map.keep (by rw[setCells_size'];exact Nat.le_refl _) (fun b hb=>setCells_other _ _ _ (fun e=>(h.lo b hb).2 (e ▸ hg))),h.lo,fun b hk=>by rw[setCells_size'];exact h.kl b hk,below_setCells _ _ _ h.low hl⟩
theorem KS.noO(h:KS w0 K u m R D O){b:Nat}(hb:K b\/b<w0.heap.size\/u.heap.size<=b): ¬O b:=fun ho=>by
 have h1:=h.lo b (.inl ho)
 have h2:=h.map.olt b ho
 rcases hb with hb | hb | hb
 ·exact h1.2 hb
 ·omega
 ·omega
theorem KS.moved(h:KS w0 K u m R D O){R':List En}{O' D':Nat->Prop}(hM:MapAt u' m R' D' O')(hm:Moved O u u')(ho:Grew u O O')(hd:Grew u D D'):KS w0 K u' m R' D' O':=by
 refine⟨hM,fun b hb=> ?_,fun b hk=>Nat.lt_of_lt_of_le (h.kl b hk) hm.size,hm.below h.low (fun x hx hh=>by have:=(h.lo x (.inl hh)).1;omega) h.low.size⟩
 have:(O b\/D b)\/u.heap.size<=b:=by
  rcases hb with hb | hb
  ·exact(ho.2 b hb).imp_left .inl
  ·exact(hd.2 b hb).imp_left .inr
 rcases this with h1 | h1
 ·exact h.lo b h1
 ·exact⟨Nat.le_trans h.low.size h1,fun hk=>by have:=h.kl b hk;omega⟩
theorem KS.stay(h:KS w0 K u m R D O)(hm:Moved O u u'){g:Nat}(hg:K g):u'.heap[g]? =u.heap[g]? :=hm.block g (h.kl g hg) (h.noO (.inl hg))
theorem KS.own(h:KS w0 K u m R D O)(hown:OwnAt w0):OwnAt u:=hown.old h.low
theorem ks_put(h:KS w0 K u m R D O)(hown:OwnAt w0)(hL:R.length<=549755813887){d v:Dt}{md mv:Dm}{S T:Nat->Prop}(ho:d.ok)(hvo:v.ok)(hd:d.at u S md)(hv:v.at u T mv)(hS: ∀b,S b->¬O b)(hT: ∀b,T b->¬O b)(hr:rB d=true)(hrv:rB v=true)(hk:kB d=true):
  Calls Tryd.prog 9 #[.pointer (some ⟨m,0,none⟩),.agg (d.cs md),.agg (v.cs mv)] u fun e u'=>e=.returned .nilIface/\∃R' D' O',PutNew R d v R'/\KS w0 K u' m R' D' O'/\Moved O u u'/\Grew u O O':=by
 refine(put_ok h.map (h.noO (.inr (.inl (cell_lt (hown 0 _ rfl))))) hL ho hvo hd hv hS hT (h.own hown) hr hrv hk).mono fun e u' hh=> ?_
 obtain⟨q1,R',q2,D',O',q3,q4,q5,q6⟩:=hh
 exact⟨q1,R',D',O',q2,h.moved q3 q4 q6 q5,q4,q6⟩
theorem ks_drop(h:KS w0 K u m R D O)(hown:OwnAt w0)(hL:R.length<=549755813887){d:Dt}{md:Dm}{S:Nat->Prop}(ho:d.ok)(hd:d.at u S md)(hr:rB d=true)(hk:kB d=true){x:En}(hf:fE R d=some x):
  Calls Tryd.prog 11 #[.pointer (some ⟨m,0,none⟩),.agg (d.cs md)] u fun e u'=>e=.returned (.tuple #[.bool true,.nilIface])/\∃X Z,R=X++x::Z/\KS w0 K u' m (X++Z) D O/\Moved O u u':=by
 refine(drop_some h.map (by omega) ho hd (h.own hown) hr hk hf).mono fun e u' hh=> ?_
 obtain⟨q1,X,Z,q2,q3,q4⟩:=hh
 exact⟨q1,X,Z,q2,h.moved q3 q4 (Grew.refl _ _) (Grew.refl _ _),q4⟩
end
theorem ks_new(w0:World):Calls Tryd.prog 7 #[] w0 fun e u=>e=.returned (.pointer (some ⟨w0.heap.size,0,none⟩))/\KS w0 (fun _=>False) u w0.heap.size [] (fun _=>False) (fun b=>b=w0.heap.size):=
 (knew_any w0).mono fun e u ⟨h1,h2,h3⟩=>⟨h1,h2,(fun b hb=>⟨hb.elim (fun h=>by rw[h];exact Nat.le_refl _) (fun h=>h.elim),id⟩),(fun _ h=>h.elim),h3⟩
end Go.Proofs.YtlhfickniegooaaDoor

namespace Go.Proofs.YtlhfickniegooaaDoor
open Go.RowKit
set_option maxRecDepth 100000
theorem put_new{R R':List En}{d v:Dt}(h:PutNew R d v R')(hf:fE R d=none): ∃g,R'=⟨g,d,v,hV d,eqO d d⟩::R:=by
 unfold PutNew at h
 rw[hf] at h
 exact h
theorem put_old{R R':List En}{d v:Dt}{x:En}(h:PutNew R d v R')(hf:fE R d=some x):R'=R.map (svE x.g v):=by
 unfold PutNew at h
 rw[hf] at h
 exact h
theorem fE_skip{R:List En}{d:Dt}{x:En}(h:eqO x.key d=false):fE (x::R) d=fE R d:=by
 unfold fE
 rw[List.find?_cons_of_neg (by rw[h];simp)]
theorem fE_hit{R:List En}{d:Dt}{x:En}(h:eqO x.key d=true)(hh:x.hash=hV d):fE (x::R) d=some x:=by
 unfold fE
 rw[List.find?_cons_of_pos (by rw[h,hh];simp)]
theorem text_right:rB (textD ⟨#[97]⟩)=true/\rB (textD ⟨#[98]⟩)=true/\rB (textD ⟨#[99]⟩)=true:=⟨by kernel_rfl,by kernel_rfl,by kernel_rfl⟩
theorem list_right:rB (pD 5 ⟨#[108,105,115,116]⟩ 0 0 ⟨#[]⟩)=true/\kB (pD 5 ⟨#[108,105,115,116]⟩ 0 0 ⟨#[]⟩)=false:=⟨by kernel_rfl,by kernel_rfl⟩
theorem okI(n:Int)(h1: -9223372036854775808<=n)(h2:n<=9223372036854775807):okInt n:=by unfold okInt;omega
theorem eql_map(g:Nat)(w:World):(binOp .eql 24 (.pointer (some ⟨g,0,none⟩)) (.pointer none)).run Tryd.prog w=.ok (.bool false) w:=by kernel_rfl
theorem known_put{w0 u:World}{K:Nat->Prop}{m:Nat}{R:List En}{D O:Nat->Prop}(h:KS w0 K u m R D O)(hown:OwnAt w0)(hL:R.length<=10)(n:Int)(hn:okInt n)(c:ByteArray)(hc:c.size<=100)(hr:rB (textD c)=true):
  Calls Tryd.prog 9 #[.pointer (some ⟨m,0,none⟩),.agg ((wholeD n).cs m0),.agg ((textD c).cs m0)] u fun e u'=>e=.returned .nilIface/\∃R' D' O',PutNew R (wholeD n) (textD c) R'/\KS w0 K u' m R' D' O'/\Moved O u u'/\Grew u O O':=
 ks_put h hown (by omega) (whole_ok hn) (text_ok (by omega)) (pD_at _ _ _ _ _ _ (fun _=>False)) (pD_at _ _ _ _ _ _ (fun _=>False)) (fun _ h=>h.elim) (fun _ h=>h.elim) (whole_right n).1 hr (whole_right n).2
end Go.Proofs.YtlhfickniegooaaDoor

namespace Go.Proofs.YtlhfickniegooaaDoor
open Go.RowKit
set_option maxRecDepth 100000
theorem ast_fault(gf:Nat)(w:World):(Instr.typeAssert (.iface 68 (.pointer (some ⟨gf,0,none⟩))) 34 68 true).run Tryd.prog w=.ok (.tuple #[.pointer (some (⟨gf,0,none⟩)),.bool true]) w:=by kernel_rfl
theorem neq_fault(gf:Nat)(w:World):(binOp .neq 68 (.pointer (some (⟨gf,0,none⟩))) (.pointer none)).run Tryd.prog w=.ok (.bool true) w:=by kernel_rfl
theorem list_held:heldS (pD 5 ⟨#[108,105,115,116]⟩ 0 0 ⟨#[]⟩).h (pD 5 ⟨#[108,105,115,116]⟩ 0 0 ⟨#[]⟩).k=⟨#[108,105,115,116]⟩:=by kernel_rfl
def noD:Dt:=pD 0 ⟨#[]⟩ 0 0 ⟨#[]⟩
def listD:Dt:=pD 5 ⟨#[108,105,115,116]⟩ 0 0 ⟨#[]⟩
theorem list_ok:listD.ok:=pD_ok (by unfold okInt;omega) (by unfold okInt;omega) (by omega) (by omega) (by show(4:Nat)<=_;omega) (by show(0:Nat)<=_;omega)
set_option maxHeartbeats 2000000 in
theorem known_any(w:World)(hown:OwnAt w):Calls Tryd.prog 6 #[] w fun e w'=>e=.returned (.bool true)/\Below w.heap.size w w':=by
 refine calls_ev (vs:=[]) 123 Tryd.func6 ln_body (by kernel_rfl) (by simp) fun a0 h0=> ?_
 unfold lnBody
 refine wp_seq (rg_wp (ln_r0 h0 fun a1 h1=> ?_))
 refine wp_seq (rg_wp (ln_r1 (gm:=w.heap.size) (C0:=fun u=>KS w (fun _=>False) u w.heap.size [] _ _) h1 (ks_new w) fun a2 w2 hK2 h2=> ?_))
 obtain⟨m,hm⟩: ∃m,m=w.heap.size:=⟨_,rfl⟩
 obtain⟨D0,O0,hK2⟩: ∃D O,KS w (fun _=>False) w2 m [] D O:=⟨_,_,hm ▸ hK2⟩
 rw[<-hm] at h2
 refine wp_seq (wp_seq (rg_wp (ln_r2 h2 rfl (fun w=>eql_map m w) fun a3 h3=>wpo (h3.look 18 rfl) ?_)))
 refine wp_seq (rg_wp (ln_r4 (C0:=fun u=>KS w (fun _=>False) u m [] D0 O0) (C1:=fun u=>KS w (fun _=>False) u m [] D0 O0) (C2:=fun u=> ∃R' D' O',PutNew [] (wholeD 1) (textD ⟨#[97]⟩) R'/\KS w (fun _=>False) u m R' D' O') h3 rfl ((kwhole_any 1 w2).mono fun e u hh=>⟨hh.1,hK2.old hh.2⟩) (fun u hu=>(ktext_any _ u).mono fun e u' hh=>⟨hh.1,hu.old hh.2⟩)
  (fun u _ u2 hu2=>(known_put hu2 hown (by simp) 1 (okI 1 (by omega) (by omega)) _ (by show(1:Nat)<=_;omega) text_right.1).mono fun e u' hh=>let⟨q0,R',D',O',q1,q2,_⟩:=hh;⟨q0,R',D',O',q1,q2⟩) fun a4 u1 u2 w4 _ _ hK4 h4=> ?_))
 obtain⟨R1,D1,O1,hN1,hK4⟩:=hK4
 obtain⟨ga,rfl⟩:=put_new hN1 rfl
 refine wp_seq (rg_wp (ln_r5 (C0:=fun u=>KS w (fun _=>False) u m _ D1 O1) (C1:=fun u=>KS w (fun _=>False) u m _ D1 O1) (C2:=fun u=> ∃R' D' O',PutNew [⟨ga,wholeD 1,textD ⟨#[97]⟩,hV (wholeD 1),eqO (wholeD 1) (wholeD 1)⟩] (wholeD 2) (textD ⟨#[98]⟩) R'/\KS w (fun _=>False) u m R' D' O') h4 rfl ((kwhole_any 2 w4).mono fun e u hh=>⟨hh.1,hK4.old hh.2⟩) (fun u hu=>(ktext_any _ u).mono fun e u' hh=>⟨hh.1,hu.old hh.2⟩)
  (fun u _ u2 hu2=>(known_put hu2 hown (by simp) 2 (okI 2 (by omega) (by omega)) _ (by show(1:Nat)<=_;omega) text_right.2.1).mono fun e u' hh=>let⟨q0,R',D',O',q1,q2,_⟩:=hh;⟨q0,R',D',O',q1,q2⟩) fun a5 u1 u2 w5 _ _ hK5 h5=> ?_))
 obtain⟨R2,D2,O2,hN2,hK5⟩:=hK5
 obtain⟨gb,rfl⟩:=put_new hN2 ((fE_skip (by rw[whole_eq];decide)).trans rfl)
 obtain⟨e1,he1⟩: ∃e1:En,e1=⟨ga,wholeD 1,textD ⟨#[97]⟩,hV (wholeD 1),eqO (wholeD 1) (wholeD 1)⟩:=⟨_,rfl⟩
 obtain⟨e2,he2⟩: ∃e2:En,e2=⟨gb,wholeD 2,textD ⟨#[98]⟩,hV (wholeD 2),eqO (wholeD 2) (wholeD 2)⟩:=⟨_,rfl⟩
 rw[<-he1,<-he2] at hK5
 have k1:e1.key=wholeD 1:=by rw[he1]
 have k2:e2.key=wholeD 2:=by rw[he2]
 have n1:e1.hash=hV (wholeD 1):=by rw[he1]
 have n2:e2.hash=hV (wholeD 2):=by rw[he2]
 have f1:fE [e2,e1] (wholeD 1)=some e1:=(fE_skip (by rw[k2,whole_eq];decide)).trans (fE_hit (by rw[k1,whole_eq];decide) n1)
 refine wp_seq (rg_wp (ln_r6 (C0:=fun u=>KS w (fun _=>False) u m [e2,e1] D2 O2) (C1:=fun u=>KS w (fun _=>False) u m [e2,e1] D2 O2) (C2:=fun u=> ∃R' D' O',PutNew [e2,e1] (wholeD 1) (textD ⟨#[99]⟩) R'/\KS w (fun _=>False) u m R' D' O') h5 rfl ((kwhole_any 1 w5).mono fun e u hh=>⟨hh.1,hK5.old hh.2⟩) (fun u hu=>(ktext_any _ u).mono fun e u' hh=>⟨hh.1,hu.old hh.2⟩)
  (fun u _ u2 hu2=>(known_put hu2 hown (by simp) 1 (okI 1 (by omega) (by omega)) _ (by show(1:Nat)<=_;omega) text_right.2.2).mono fun e u' hh=>let⟨q0,R',D',O',q1,q2,_⟩:=hh;⟨q0,R',D',O',q1,q2⟩) fun a6 u1 u2 w6 _ _ hK6 h6=> ?_))
 obtain⟨R3,D3,O3,hN3,hK6⟩:=hK6
 obtain rfl:=put_old hN3 f1
 obtain⟨y1,hy1⟩: ∃y,y=svE e1.g (textD ⟨#[99]⟩) e1:=⟨_,rfl⟩
 obtain⟨y2,hy2⟩: ∃y,y=svE e1.g (textD ⟨#[99]⟩) e2:=⟨_,rfl⟩
 have hK6:KS w (fun _=>False) w6 m [y2,y1] D3 O3:=by rw[hy1,hy2];exact hK6
 have k1:y1.key=wholeD 1:=by rw[hy1,svE_key,k1]
 have k2:y2.key=wholeD 2:=by rw[hy2,svE_key,k2]
 have n1:y1.hash=hV (wholeD 1):=by rw[hy1,svE_hash,n1]
 have n2:y2.hash=hV (wholeD 2):=by rw[hy2,svE_hash,n2]
 have v1:y1.val=textD ⟨#[99]⟩:=by rw[hy1];unfold svE;rw[if_pos rfl]
 have f1:fE [y2,y1] (wholeD 1)=some y1:=(fE_skip (by rw[k2,whole_eq];decide)).trans (fE_hit (by rw[k1,whole_eq];decide) n1)
 have f2:fE [y2,y1] (wholeD 2)=some y2:=fE_hit (by rw[k2,whole_eq];decide) n2
 refine wp_seq (rg_wp (ln_r7 (d34:=textD ⟨#[99]⟩) (C0:=fun u=>KS w (fun _=>False) u m [y2,y1] D3 O3) (C1:=fun _ u=>KS w (fun _=>False) u m [y2,y1] D3 O3) h6 rfl ((kwhole_any 1 w6).mono fun e u hh=>⟨hh.1,hK6.old hh.2⟩)
  (fun u hu=>(get_some hu.map (whole_ok (okI 1 (by omega) (by omega))) (pD_at _ _ _ _ _ _ (fun _=>False)) (hu.own hown) (whole_right 1).1 (whole_right 1).2 f1).mono fun e u' hh=>by
   obtain⟨m',q1,_,q2⟩:=hh
   rw[v1] at q1
   exact⟨m',q1,hu.old q2⟩) (fun u hu x u2 _=>dat_store (Blk.new u2 31 zeroC) (by show 0+11<=11;omega)) fun a7 u1 x7 u7 _ hK7 h7=> ?_))
 have hB7:=over_dat (Blk.new u7 31 zeroC) rfl (textD ⟨#[99]⟩) x7
 have hb7:Below u7.heap.size u7 ((u7.alloc (.cells zeroC 31)).setCells u7.heap.size 0 ((textD ⟨#[99]⟩).cs x7).toList):=below_setCells _ _ _ (bl_alloc (Below.refl _ _) _) (Nat.le_refl _)
 have hK7:=hK7.add hb7 (K':=fun b=>b=u7.heap.size) (fun b hb=>.inr ⟨by omega,by rw[hb];exact hB7.lt⟩)
 obtain⟨g5,hg5⟩: ∃g,g=u7.heap.size:=⟨_,rfl⟩
 show Code.wp _ _ _ a7 ((u7.alloc (.cells zeroC 31)).setCells u7.heap.size 0 ((textD ⟨#[99]⟩).cs x7).toList)
 generalize (u7.alloc (.cells zeroC 31)).setCells u7.heap.size 0 ((textD ⟨#[99]⟩).cs x7).toList=w7 at hB7 hK7 ⊢
 rw[<-hg5] at hB7 hK7 h7
 refine wp_seq (rg_wp (ln_r8 (C0:=fun u=>KS w (fun b=>b=g5) u m [y2,y1] D3 O3/\Blk u g5 31 ((textD ⟨#[99]⟩).cs x7)) (C1:=fun u=> ∃y,y.key=wholeD 1/\KS w (fun b=>b=g5) u m [y] D3 O3/\Blk u g5 31 ((textD ⟨#[99]⟩).cs x7)) h7 rfl ((kwhole_any 2 w7).mono fun e u hh=>⟨hh.1,hK7.old hh.2,hB7.below hh.2 hB7.lt⟩)
  (fun u hu=>(ks_drop hu.1 hown (by simp) (whole_ok (okI 2 (by omega) (by omega))) (pD_at _ _ _ _ _ _ (fun _=>False)) (whole_right 2).1 (whole_right 2).2 f2).mono fun e u' hh=>by
   obtain⟨q0,X,Z,q1,q2,q3⟩:=hh
   refine⟨q0, ?_⟩
   have hB':=hu.2.stay (hu.1.stay q3 rfl)
   match X,q1 with
   | [],q1=>
    injection q1 with _ q1
    rw[<-q1] at q2
    exact⟨y1,k1,q2,hB'⟩
   | z::X,q1=>
    injection q1 with _ q1
    match X,q1 with
    | [],q1=>
     injection q1 with q1 _
     have:=congrArg (fun d:Dt=>d.h.n) (k1.symm.trans ((congrArg En.key q1).trans k2))
     exact absurd this (by show ¬(1:Int)=2;decide)
    | _::X,q1=>
     injection q1 with _ q1
     simp at q1) fun a8 u8 w8 _ hK8 h8=> ?_))
 obtain⟨y,ky,hK8,hB8⟩:=hK8
 have f3:fE [y] (wholeD 2)=none:=(fE_skip (by rw[ky,whole_eq];decide)).trans rfl
 refine wp_seq (rg_wp (ln_r9 (dz:=noD) (mz:=m0) (C0:=fun u=>KS w (fun b=>b=g5) u m [y] D3 O3/\Blk u g5 31 ((textD ⟨#[99]⟩).cs x7)) (C1:=fun u=>KS w (fun b=>b=g5) u m [y] D3 O3/\Blk u g5 31 ((textD ⟨#[99]⟩).cs x7)) h8 rfl ((kwhole_any 2 w8).mono fun e u hh=>⟨hh.1,hK8.old hh.2,hB8.below hh.2 hB8.lt⟩)
  (fun u hu=>(get_none hu.1.map (whole_ok (okI 2 (by omega) (by omega))) (pD_at _ _ _ _ _ _ (fun _=>False)) (hu.1.own hown) (whole_right 2).1 (whole_right 2).2 f3).mono fun e u' hh=>⟨hh.1,hu.1.old hh.2,hu.2.below hh.2 hu.2.lt⟩)
  (fun u hu u2 _=>dat_store (Blk.new u2 31 zeroC) (by show 0+11<=11;omega)) fun a9 u1 u9 _ hK9 h9=> ?_))
 obtain⟨hK9,hB9⟩:=hK9
 have hb9:Below u9.heap.size u9 ((u9.alloc (.cells zeroC 31)).setCells u9.heap.size 0 (noD.cs m0).toList):=below_setCells _ _ _ (bl_alloc (Below.refl _ _) _) (Nat.le_refl _)
 have hK9:=hK9.old hb9
 have hB9:=hB9.below hb9 hB9.lt
 show Code.wp _ _ _ a9 ((u9.alloc (.cells zeroC 31)).setCells u9.heap.size 0 (noD.cs m0).toList)
 generalize (u9.alloc (.cells zeroC 31)).setCells u9.heap.size 0 (noD.cs m0).toList=w9 at hK9 hB9 ⊢
 refine wp_seq (rg_wp (ln_r10 (C0:=fun u=>KS w (fun b=>b=g5) u m [y] D3 O3/\Blk u g5 31 ((textD ⟨#[99]⟩).cs x7)) (C1:=fun g u=>(KS w (fun b=>b=g5) u m [y] D3 O3/\Blk u g5 31 ((textD ⟨#[99]⟩).cs x7))/\Blk u g 71 #[.string keyW,.string ⟨#[108,105,115,116]⟩]) h9 rfl ((kwhole_any 1 w9).mono fun e u hh=>⟨hh.1,hK9.old hh.2,hB9.below hh.2 hB9.lt⟩)
  (fun u hu=>(kput_any (d:=listD) (md:=m0) (S:=fun _=>False) (T:=fun _=>False) hu.1.map (hu.1.noO (.inr (.inl (cell_lt (hown 0 _ rfl))))) (by simp) list_ok (whole_ok (okI 1 (by omega) (by omega))) (pD_at _ _ _ _ _ _ _) (pD_at _ _ _ _ _ _ _) (fun _ h=>h.elim) (fun _ h=>h.elim) (hu.1.own hown)).mono fun e u' hh=>by
   unfold PutR at hh
   rw[if_neg (by rw[show rB listD=true from list_right.1,(whole_right 1).1];decide),if_pos (show kB listD=false from list_right.2)] at hh
   obtain⟨q1,x,q2,g,q3,q4,_⟩:=hh
   rw[show heldS listD.h listD.k=_ from list_held] at q4
   exact⟨g,by rw[q2,q3],⟨hu.1.old q1,hu.2.below q1 hu.2.lt⟩,q4⟩) fun a10 u10 gf w10 _ hK10 h10=> ?_))
 obtain⟨⟨hK10,hB10⟩,hF10⟩:=hK10
 refine wp_seq (rg_wp (ln_r11 h10 rfl (fun w=>ast_fault gf w) fun a11 h11=> ?_))
 refine wp_seq (rg_wp (ln_r12_tttt (sv:=⟨#[99]⟩) (w1s:=keyW) (w2s:=⟨#[108,105,115,116]⟩) (b121:=true) (C0:=fun u=>u=w10) h11 rfl rfl rfl rfl rfl rfl rfl rfl rfl rfl rfl rfl rfl (one_load hB10 Tryd.underlying9 rfl rfl) (by decide) ((klen_any hK10.map).mono fun e u hh=>hh) (fun w=>by kernel_rfl) (fun w=>neq_fault gf w) (fun u hu=>by rw[hu];exact one_load hF10 Tryd.underlying9 rfl rfl) (by decide) (fun u hu=>by rw[hu];exact one_load hF10 Tryd.underlying9 rfl rfl) (by decide) fun a12 w12 hx h12=>wp_ret ?_))
 subst hx
 exact ret1 rfl h12 rfl ⟨rfl,hK10.low⟩
end Go.Proofs.YtlhfickniegooaaDoor

namespace Go.Proofs.YtlhfickniegooaaDoor
open Go.RowKit Go.Sort
set_option maxRecDepth 100000
def StepsAt(w:World)(pa:Option Addr)(xs:List Sp):Prop:= ∀(j:Nat) (x:Sp),xs[j]? =some x->∃b o,pa=some ⟨b,o,none⟩/\b<w.heap.size/\CellsAt w b (o+j*49) x.cs/\SpOk w x
theorem eql_mp(g:Nat)(w:World):(binOp .eql 24 (.pointer (some ⟨g,0,none⟩)) (.pointer none)).run Tryd.prog w=.ok (.bool false) w:=by kernel_rfl
section
variable {a:Act} {u:World} {gw k n:Nat} {sd:Option Addr} {sc:Nat} {cs:Array Value} {Q:Exit->Act->World->Prop}
set_option maxHeartbeats 4000000 in
theorem pl_init(hk:k<2)(h:Sl 102 a [(5,.int .i64 (k:Int)),(4,.pointer (some ⟨gw,0,none⟩)),(3,.bool true),(0,.slice sd n sc)])(hB:Blk u gw wdT cs)(hz:cs.size=9)
  (hQ: ∀(a':Act) (u':World) (gm gr ga gk:Nat),Sl 102 a' [(5,.int .i64 ((k+1:Nat):Int)),(4,.pointer (some ⟨gw,0,none⟩)),(3,.bool true),(0,.slice sd n sc)]->Blk u' gw wdT ((((cs.setIfInBounds k (pv gm)).setIfInBounds (2+k) (pv gr)).setIfInBounds (4+k) (fA ga)).setIfInBounds (6+k) (fW gk))->
   MapAt u' gm [] (fun _=>False) (fun b=>b=gm)->Blk u' gr rfT #[.slice none 0 0,.int .i64 0]->Blk u' ga mpT #[pv gm]->Blk u' gk mpT #[pv gm]->(u.heap.size<=gm/\gm<gr/\gr<ga/\ga<gk)->MovC (fun b=>b=gw) u u'->Q .normal a' u'):
  pl9L1.wp Tryd.prog Q a u:=by
 have lg:=hB.lt
 unfold pl9L1
 refine wp_seq (wp_seq (rg_wp (pl9_r4 (b13:=true) h rfl (decide_eq_true (by omega)) fun a1 h1=>wpn (h1.look 13 rfl) ?_)))
 have hdr:=below_drewN (Below.refl u.heap.size u) 1
 have sto: ∀{v:World} {cs:Array Value} {t:TypeId} {x:Value} {o:Nat},Blk v gw wdT cs->cs.size=9->o<9->(Tryd.prog.info? t).map (·.size)=some 1->x.oneCell'=true->(Instr.storeAt t (.pointer (some ⟨gw,o,none⟩)) x).run Tryd.prog v=.ok () (v.setCells gw o [x]):=fun hb hz ho hi h1=>one_store hb hi (by omega) h1
 refine wp_seq (wp_block ?_)
 refine wp_seq (rg_wp (pl9_r6 (C:=fun v=>Below u.heap.size u v) (C0:=fun x v=>u.heap.size<=x/\MapAt v x [] (fun _=>False) (fun b=>b=x)/\Below u.heap.size u v) (g21:=gw) (o21:=k) h1 rfl rfl hdr ((knew_any (u.drewN 1)).mono fun e v hh=>⟨(u.drewN 1).heap.size,hh.1,Nat.le_refl _,hh.2.1,bl_trans hdr hh.2.2⟩) (fun _ _ hc=>hc.2.2) (ix_m hk gw) (fun x v hc=>sto (hB.below hc.2.2 lg) hz (by omega) (by kernel_rfl) rfl) fun a2 gm v1 hc h2=> ?_))
 obtain⟨lm,hM1,hb1⟩:=hc
 have lm1:=hM1.mlt
 have c1:Blk (v1.setCells gw k [pv gm]) gw wdT (cs.setIfInBounds k (pv gm)):=(hB.below hb1 lg).set_ k _
 have hM2:MapAt (v1.setCells gw k [pv gm]) gm [] (fun _=>False) (fun b=>b=gm):=hM1.keepB (by rw[setCells_size'];exact Nat.le_refl _) (fun b hb=>setCells_other _ _ _ (hb.elim False.elim fun hb=>by omega))
 have mv2:MovC (fun b=>b=gw) u (v1.setCells gw k [pv gm]):=(MovC.of_below (S:=fun b=>b=gw) hb1).set (fun _=>rfl) ⟨_,_,hB.below hb1 lg⟩ _ _
 have s2:(v1.setCells gw k [pv gm]).heap.size=v1.heap.size:=setCells_size' _ _ _ _
 show Code.wp _ _ _ a2 (v1.setCells gw k [pv gm])
 generalize v1.setCells gw k [pv gm]=v2 at c1 hM2 mv2 s2 ⊢
 have hr0:=Blk.new v2 rfT #[.slice none 0 0,.int .i64 0]
 have cg:=c1.alloc (.cells #[.slice none 0 0,.int .i64 0] rfT)
 refine wp_seq (rg_wp (pl9_r7 (g28:=gw) (o28:=2+k) h2 rfl rfl (ix_r hk gw) (sto cg (by simpa using hz) (by omega) (by kernel_rfl) rfl) fun a3 h3=> ?_))
 have hba:Below v2.heap.size v2 (v2.alloc (.cells #[.slice none 0 0,.int .i64 0] rfT)):=bl_alloc (Below.refl _ _) _
 have c3:=cg.set_ (2+k) (pv v2.heap.size)
 have hr3:=Blk.farL (g:=v2.heap.size) (b:=gw) (by omega) [pv v2.heap.size] (2+k) _ hr0
 have hM3:MapAt ((v2.alloc (.cells #[.slice none 0 0,.int .i64 0] rfT)).setCells gw (2+k) [pv v2.heap.size]) gm [] (fun _=>False) (fun b=>b=gm):=(hM2.old hba).keepB (by rw[setCells_size'];exact Nat.le_refl _) (fun b hb=>setCells_other _ _ _ (hb.elim False.elim fun hb=>by omega))
 have mv3:MovC (fun b=>b=gw) u ((v2.alloc (.cells #[.slice none 0 0,.int .i64 0] rfT)).setCells gw (2+k) [pv v2.heap.size]):=(mv2.below hba).set (fun _=>rfl) ⟨_,_,cg⟩ _ _
 obtain⟨gr,hgr⟩: ∃gr,gr=v2.heap.size:=⟨_,rfl⟩
 have lmr:gm<gr:=by omega
 show Code.wp _ _ _ a3 ((v2.alloc (.cells #[.slice none 0 0,.int .i64 0] rfT)).setCells gw (2+k) [pv v2.heap.size])
 have s3:((v2.alloc (.cells #[.slice none 0 0,.int .i64 0] rfT)).setCells gw (2+k) [pv v2.heap.size]).heap.size=v2.heap.size+1:=by rw[setCells_size',World.size_alloc]
 rw[<-hgr] at c3 hr3 hM3 mv3 s3 ⊢
 have c3:Blk ((v2.alloc (.cells #[.slice none 0 0,.int .i64 0] rfT)).setCells gw (2+k) [pv gr]) gw wdT ((cs.setIfInBounds k (pv gm)).setIfInBounds (2+k) (pv gr)):=c3
 generalize (v2.alloc (.cells #[.slice none 0 0,.int .i64 0] rfT)).setCells gw (2+k) [pv gr]=v3 at c3 hr3 hM3 mv3 s3 ⊢
 have z3:((cs.setIfInBounds k (pv gm)).setIfInBounds (2+k) (pv gr)).size=9:=by simpa using hz
 have gk3:((cs.setIfInBounds k (pv gm)).setIfInBounds (2+k) (pv gr))[k]? =some (.pointer (some ⟨gm,0,none⟩)):=by
  rw[Array.getElem?_setIfInBounds_ne (by omega),Array.getElem?_setIfInBounds_self_of_lt (by omega)]
  rfl
 refine wp_seq (wp_seq (rg_wp (pl9_r8 (g33:=gw) (o33:=k) (gm:=gm) (b35:=false) h3 rfl rfl (ix_m hk gw) (one_load c3 Tryd.underlying24 rfl gk3) (eql_mp gm) fun a4 h4=>wpo (h4.look 35 rfl) ?_)))
 have hdr3:=below_drewN (Below.refl v3.heap.size v3) 1
 have lg3:=c3.lt
 refine wp_seq (rg_wp (pl9_r10 (C:=fun v=>Below v3.heap.size v3 v) (C0:=fun x v=>(v3.heap.size<=x/\Blk v x mpT #[pv gm])/\Below v3.heap.size v3 v) (g42:=gw) (o42:=k) (gm:=gm) (g47:=gw) (o47:=4+k) h4 rfl rfl hdr3 (ix_m hk gw) (fun v hv=>one_load (c3.below hv lg3) Tryd.underlying24 rfl gk3)
  ((kallm_any (v3.drewN 1) gm).mono fun e v hh=>⟨(v3.drewN 1).heap.size,hh.1,⟨Nat.le_refl _,hh.2.1⟩,bl_trans hdr3 hh.2.2⟩) (fun _ _ hc=>hc.2) (ix_a hk gw) (fun x v hc=>sto (c3.below hc.2 lg3) z3 (by omega) (by kernel_rfl) rfl) fun a5 ga v4 hc h5=> ?_))
 obtain⟨⟨la,hA4⟩,hb4⟩:=hc
 have c5:=(c3.below hb4 lg3).set_ (4+k) (fA ga)
 have hM5:MapAt (v4.setCells gw (4+k) [fA ga]) gm [] (fun _=>False) (fun b=>b=gm):=(hM3.old hb4).keepB (by rw[setCells_size'];exact Nat.le_refl _) (fun b hb=>setCells_other _ _ _ (hb.elim False.elim fun hb=>by omega))
 have hr5:Blk (v4.setCells gw (4+k) [fA ga]) gr rfT #[.slice none 0 0,.int .i64 0]:=Blk.farL (by omega) _ _ _ (hr3.below hb4 hr3.lt)
 have hA5:Blk (v4.setCells gw (4+k) [fA ga]) ga mpT #[pv gm]:=Blk.farL (by omega) _ _ _ hA4
 have mv5:MovC (fun b=>b=gw) u (v4.setCells gw (4+k) [fA ga]):=(mv3.below hb4).set (fun _=>rfl) ⟨_,_,c3.below hb4 lg3⟩ _ _
 have s5:(v4.setCells gw (4+k) [fA ga]).heap.size=v4.heap.size:=setCells_size' _ _ _ _
 have la4:=hA4.lt
 show Code.wp _ _ _ a5 (v4.setCells gw (4+k) [fA ga])
 have c5:Blk (v4.setCells gw (4+k) [fA ga]) gw wdT (((cs.setIfInBounds k (pv gm)).setIfInBounds (2+k) (pv gr)).setIfInBounds (4+k) (fA ga)):=c5
 generalize v4.setCells gw (4+k) [fA ga]=v5 at c5 hM5 hr5 hA5 mv5 s5 ⊢
 have z5:(((cs.setIfInBounds k (pv gm)).setIfInBounds (2+k) (pv gr)).setIfInBounds (4+k) (fA ga)).size=9:=by simpa using hz
 have gk5:(((cs.setIfInBounds k (pv gm)).setIfInBounds (2+k) (pv gr)).setIfInBounds (4+k) (fA ga))[k]? =some (.pointer (some ⟨gm,0,none⟩)):=by
  rw[Array.getElem?_setIfInBounds_ne (by omega)]
  exact gk3
 have hdr5:=below_drewN (Below.refl v5.heap.size v5) 1
 have lg5:=c5.lt
 refine wp_seq (rg_wp (pl9_r11 (C:=fun v=>Below v5.heap.size v5 v) (C0:=fun x v=>(v5.heap.size<=x/\Blk v x mpT #[pv gm])/\Below v5.heap.size v5 v) (g54:=gw) (o54:=k) (gm:=gm) (g59:=gw) (o59:=6+k) h5 rfl rfl hdr5 (ix_m hk gw) (fun v hv=>one_load (c5.below hv lg5) Tryd.underlying24 rfl gk5)
  ((kwalk_any (v5.drewN 1) gm).mono fun e v hh=>⟨(v5.drewN 1).heap.size,hh.1,⟨Nat.le_refl _,hh.2.1⟩,bl_trans hdr5 hh.2.2⟩) (fun _ _ hc=>hc.2) (ix_k hk gw) (fun x v hc=>sto (c5.below hc.2 lg5) z5 (by omega) (by kernel_rfl) rfl) fun a6 gk v6 hc h6=> ?_))
 obtain⟨⟨lk,hK6⟩,hb6⟩:=hc
 have c7:=(c5.below hb6 lg5).set_ (6+k) (fW gk)
 have hM7:MapAt (v6.setCells gw (6+k) [fW gk]) gm [] (fun _=>False) (fun b=>b=gm):=(hM5.old hb6).keepB (by rw[setCells_size'];exact Nat.le_refl _) (fun b hb=>setCells_other _ _ _ (hb.elim False.elim fun hb=>by omega))
 have hr7:Blk (v6.setCells gw (6+k) [fW gk]) gr rfT #[.slice none 0 0,.int .i64 0]:=Blk.farL (by omega) _ _ _ (hr5.below hb6 hr5.lt)
 have hA7:Blk (v6.setCells gw (6+k) [fW gk]) ga mpT #[pv gm]:=Blk.farL (by omega) _ _ _ (hA5.below hb6 hA5.lt)
 have hK7:Blk (v6.setCells gw (6+k) [fW gk]) gk mpT #[pv gm]:=Blk.farL (by omega) _ _ _ hK6
 have mv7:MovC (fun b=>b=gw) u (v6.setCells gw (6+k) [fW gk]):=(mv5.below hb6).set (fun _=>rfl) ⟨_,_,c5.below hb6 lg5⟩ _ _
 show Code.wp _ _ _ a6 (v6.setCells gw (6+k) [fW gk])
 have c7:Blk (v6.setCells gw (6+k) [fW gk]) gw wdT ((((cs.setIfInBounds k (pv gm)).setIfInBounds (2+k) (pv gr)).setIfInBounds (4+k) (fA ga)).setIfInBounds (6+k) (fW gk)):=c7
 generalize v6.setCells gw (6+k) [fW gk]=v7 at c7 hM7 hr7 hA7 hK7 mv7 ⊢
 have z7:((((cs.setIfInBounds k (pv gm)).setIfInBounds (2+k) (pv gr)).setIfInBounds (4+k) (fA ga)).setIfInBounds (6+k) (fW gk)).size=9:=by simpa using hz
 refine wp_seq (rg_wp (pl9_r12_f (g64:=gw) (o64:=4+k) (ga:=ga) (g72:=gw) (o72:=6+k) (gk:=gk) (b74:=false) h6 rfl rfl (ix_a hk gw) (one_load c7 Tryd.underlying41 rfl (by
  rw[Array.getElem?_setIfInBounds_ne (by omega),Array.getElem?_setIfInBounds_self_of_lt (by omega)]
  rfl)) (fun w=>eql_fn _ ga w) (ix_k hk gw) (one_load c7 Tryd.underlying41 rfl (by
  rw[Array.getElem?_setIfInBounds_self_of_lt (by omega)]
  rfl)) (fun w=>eql_fn _ gk w) fun a7 h7=>wpc_off (h7.look 75 rfl) (block_norm ?_)))
 show Code.wp _ (r_pl9 5) _ a7 v7
 refine wpl (rg_wp (pl9_r5 h7 rfl (by omega) fun a8 h8=> ?_))
 exact hQ a8 v7 gm gr ga gk (h8.to ⟨by simp,rfl,rfl,rfl,trivial⟩) c7 hM7 hr7 hA7 hK7 ⟨lm,lmr,by omega,by omega⟩ mv7
end
end Go.Proofs.YtlhfickniegooaaDoor

namespace Go.Proofs.YtlhfickniegooaaDoor
open Go.RowKit Go.Sort
set_option maxRecDepth 100000
def zeroW:Array Value:=#[.pointer none,.pointer none,.pointer none,.pointer none,.nilFunc,.nilFunc,.nilFunc,.nilFunc,.slice none 0 0]
theorem ps_start{w0 w:World}{gw m0 r0 a0 k0 m1 r1 a1 k1:Nat}(hb:Below w0.heap.size w0 w)(hW:Blk w gw wdT #[pv m0,pv m1,pv r0,pv r1,fA a0,fA a1,fW k0,fW k1,.slice none 0 0])
  (hM0:MapAt w m0 [] (fun _=>False) (fun b=>b=m0)) (hM1:MapAt w m1 [] (fun _=>False) (fun b=>b=m1)) (hr0:Blk w r0 rfT #[.slice none 0 0,.int .i64 0]) (hr1:Blk w r1 rfT #[.slice none 0 0,.int .i64 0])
  (ha0:Blk w a0 mpT #[pv m0]) (ha1:Blk w a1 mpT #[pv m1]) (hk0:Blk w k0 mpT #[pv m0]) (hk1:Blk w k1 mpT #[pv m1]) (ho:w0.heap.size<=gw/\gw<m0/\m0<r0/\r0<a0/\a0<k0/\k0<m1/\m1<r1/\r1<a1/\a1<k1):
  ∃(c:PlC) (s:St),c.w0=w0/\c.gw=gw/\PS c s w/\(∀k,k<2->s.L k=[]/\s.many k=0)/\s.n=0:=by
 have l0:=hr0.lt
 have l1:=hr1.lt
 have l2:=hk0.lt
 have l3:=hk1.lt
 have l4:=hW.lt
 have l5:=hM0.mlt
 have l6:=hM1.mlt
 have l7:=ha0.lt
 have l8:=ha1.lt
 refine⟨⟨w0,gw,fun k=>if k=0 then m0 else m1,fun k=>if k=0 then r0 else r1,fun k=>if k=0 then a0 else a1,fun k=>if k=0 then k0 else k1⟩,
  ⟨fun i b=>(i=1/\b=m0)\/(i=5/\b=m1)\/(i=3/\b=r0)\/(i=7/\b=r1)\/(i=8/\b=gw)\/(i=9/\(b=a0\/b=a1\/b=k0\/b=k1)),fun _=>[],fun _=>[],fun _=>0,0⟩,rfl,rfl,⟨⟨fun k hk=> ?_,fun k hk=> ?_, ?_,fun k hk=> ?_,fun i j b hij hi hj=> ?_,fun i b hi=> ?_,hb⟩,fun k _=>⟨rfl,List.Pairwise.nil,List.Pairwise.nil,fun x hx=>by cases hx⟩⟩,fun k _=>⟨rfl,rfl⟩,rfl⟩
 ·have:k=0\/k=1:=by omega
  rcases this with rfl | rfl
  ·have e1:(fun b:Nat=>((4*0=1/\b=m0)\/(4*0=5/\b=m1)\/(4*0=3/\b=r0)\/(4*0=7/\b=r1)\/(4*0=8/\b=gw)\/(4*0=9/\(b=a0\/b=a1\/b=k0\/b=k1))))=fun _=>False:=by
    funext b
    exact propext ⟨fun h=>by omega,fun h=>h.elim⟩
   have e2:(fun b:Nat=>((4*0+1=1/\b=m0)\/(4*0+1=5/\b=m1)\/(4*0+1=3/\b=r0)\/(4*0+1=7/\b=r1)\/(4*0+1=8/\b=gw)\/(4*0+1=9/\(b=a0\/b=a1\/b=k0\/b=k1))))=fun b=>b=m0:=by
    funext b
    exact propext ⟨fun h=>by omega,fun h=>by omega⟩
   show MapAt w m0 [] (fun b:Nat=>_) (fun b:Nat=>_)
   rw[e1,e2]
   exact hM0
  ·have e1:(fun b:Nat=>((4*1=1/\b=m0)\/(4*1=5/\b=m1)\/(4*1=3/\b=r0)\/(4*1=7/\b=r1)\/(4*1=8/\b=gw)\/(4*1=9/\(b=a0\/b=a1\/b=k0\/b=k1))))=fun _=>False:=by
    funext b
    exact propext ⟨fun h=>by omega,fun h=>h.elim⟩
   have e2:(fun b:Nat=>((4*1+1=1/\b=m0)\/(4*1+1=5/\b=m1)\/(4*1+1=3/\b=r0)\/(4*1+1=7/\b=r1)\/(4*1+1=8/\b=gw)\/(4*1+1=9/\(b=a0\/b=a1\/b=k0\/b=k1))))=fun b=>b=m1:=by
    funext b
    exact propext ⟨fun h=>by omega,fun h=>by omega⟩
   show MapAt w m1 [] (fun b:Nat=>_) (fun b:Nat=>_)
   rw[e1,e2]
   exact hM1
 ·have:k=0\/k=1:=by omega
  rcases this with rfl | rfl
  ·exact⟨⟨⟨none,0,0⟩,hr0,RowE.nil _ _,fun g hg=>by cases hg⟩,.inr (.inr (.inl ⟨rfl,rfl⟩)),fun x hx=>(by cases hx),fun x hx=>(by cases hx),fun b hb=>(by have hb:(4*0+2=1/\b=m0)\/(4*0+2=5/\b=m1)\/(4*0+2=3/\b=r0)\/(4*0+2=7/\b=r1)\/(4*0+2=8/\b=gw)\/(4*0+2=9/\(b=a0\/b=a1\/b=k0\/b=k1)):=hb;omega),fun b hb=>(by have hb:(4*0+3=1/\b=m0)\/(4*0+3=5/\b=m1)\/(4*0+3=3/\b=r0)\/(4*0+3=7/\b=r1)\/(4*0+3=8/\b=gw)\/(4*0+3=9/\(b=a0\/b=a1\/b=k0\/b=k1)):=hb;omega),fun b hb=>(by have hb:(4*0+2=1/\b=m0)\/(4*0+2=5/\b=m1)\/(4*0+2=3/\b=r0)\/(4*0+2=7/\b=r1)\/(4*0+2=8/\b=gw)\/(4*0+2=9/\(b=a0\/b=a1\/b=k0\/b=k1)):=hb;omega)⟩
  ·exact⟨⟨⟨none,0,0⟩,hr1,RowE.nil _ _,fun g hg=>by cases hg⟩,.inr (.inr (.inr (.inl ⟨rfl,rfl⟩))),fun x hx=>(by cases hx),fun x hx=>(by cases hx),fun b hb=>(by have hb:(4*1+2=1/\b=m0)\/(4*1+2=5/\b=m1)\/(4*1+2=3/\b=r0)\/(4*1+2=7/\b=r1)\/(4*1+2=8/\b=gw)\/(4*1+2=9/\(b=a0\/b=a1\/b=k0\/b=k1)):=hb;omega),fun b hb=>(by have hb:(4*1+3=1/\b=m0)\/(4*1+3=5/\b=m1)\/(4*1+3=3/\b=r0)\/(4*1+3=7/\b=r1)\/(4*1+3=8/\b=gw)\/(4*1+3=9/\(b=a0\/b=a1\/b=k0\/b=k1)):=hb;omega),fun b hb=>(by have hb:(4*1+2=1/\b=m0)\/(4*1+2=5/\b=m1)\/(4*1+2=3/\b=r0)\/(4*1+2=7/\b=r1)\/(4*1+2=8/\b=gw)\/(4*1+2=9/\(b=a0\/b=a1\/b=k0\/b=k1)):=hb;omega)⟩
 ·exact⟨⟨none,0,0⟩,[],hW,rfl,⟨rfl,rfl⟩,World.ownsRow_nil _ _ _ _,fun g hg=>(by cases hg),.inr (.inr (.inr (.inr (.inl ⟨rfl,rfl⟩)))),fun i c hc=>by cases hc⟩
 ·have:k=0\/k=1:=by omega
  rcases this with rfl | rfl
  ·exact⟨⟨ha0,.inr (.inr (.inr (.inr (.inr ⟨rfl,.inl rfl⟩))))⟩,hk0,.inr (.inr (.inr (.inr (.inr ⟨rfl,.inr (.inr (.inl rfl))⟩))))⟩
  ·exact⟨⟨ha1,.inr (.inr (.inr (.inr (.inr ⟨rfl,.inr (.inl rfl)⟩))))⟩,hk1,.inr (.inr (.inr (.inr (.inr ⟨rfl,.inr (.inr (.inr rfl))⟩))))⟩
 ·have hi:(i=1/\b=m0)\/(i=5/\b=m1)\/(i=3/\b=r0)\/(i=7/\b=r1)\/(i=8/\b=gw)\/(i=9/\(b=a0\/b=a1\/b=k0\/b=k1)):=hi
  have hj:(j=1/\b=m0)\/(j=5/\b=m1)\/(j=3/\b=r0)\/(j=7/\b=r1)\/(j=8/\b=gw)\/(j=9/\(b=a0\/b=a1\/b=k0\/b=k1)):=hj
  omega
 ·have hi:(i=1/\b=m0)\/(i=5/\b=m1)\/(i=3/\b=r0)\/(i=7/\b=r1)\/(i=8/\b=gw)\/(i=9/\(b=a0\/b=a1\/b=k0\/b=k1)):=hi
  show w0.heap.size<=b/\b<w.heap.size
  omega
theorem MovC.bl{T:Nat->Prop}{n:Nat}{w0 a b:World}(h:MovC T a b)(hb:Below n w0 a)(ho: ∀x,T x->n<=x)(hn:n<=a.heap.size):Below n w0 b:=
 ⟨h.os.trans hb.os,h.tape.trans hb.tape,h.output.trans hb.output,Nat.le_trans hb.size h.size,fun k hk=>(h.block k (by omega) (fun q=>by have:=ho k q.1;omega)).trans (hb.block k hk)⟩
set_option maxHeartbeats 4000000 in
theorem plays_any{w:World}{pa:Option Addr}{xs:List Sp}{sc:Nat}(hown:OwnAt w)(hxs:StepsAt w pa xs):
    Calls Tryd.prog 4 #[.slice pa xs.length sc] w fun e w'=>e=.returned (.bool true)/\Below w.heap.size w w':=by
  refine calls_ev (vs:=[.slice pa xs.length sc]) 102 Tryd.func4 pl9_body (by kernel_rfl) (by simp) fun a0 h0=> ?_
  unfold pl9Body
  refine wp_seq (rg_wp (pl9_r0 h0 fun a1 h1=> ?_))
  refine wp_seq (rg_wp (pl9_r1 (b3:=true) (C0:=fun u=>Below w.heap.size w u) h1 (known_any w hown) fun a2 u1 hb1 h2=> ?_))
  refine wp_seq (rg_wp (pl9_r2 h2 fun a3 h3=> ?_))
  have hW0:=Blk.new u1 wdT zeroW
  have hb2:=bl_alloc hb1 (.cells zeroW wdT)
  have z1:=hb1.size
  have s2:(u1.alloc (.cells zeroW wdT)).heap.size=u1.heap.size+1:=World.size_alloc _ _
  show Code.wp _ _ _ a3 (u1.alloc (.cells zeroW wdT))
  obtain⟨gw,hgw⟩: ∃gw,gw=u1.heap.size:=⟨_,rfl⟩
  rw[<-hgw] at h3 hW0
  generalize u1.alloc (.cells zeroW wdT)=u2 at hW0 hb2 s2 ⊢
  refine wp_seq (wp_seq (rg_wp (pl9_r3 h3 fun a4 h4=> ?_)))
  have h4:Sl 102 a4 [(5,.int .i64 ((0:Nat):Int)),(4,.pointer (some ⟨gw,0,none⟩)),(3,.bool true),(0,.slice pa xs.length sc)]:=h4.to ⟨rfl,rfl,rfl,rfl,trivial⟩
  refine wp_block (wp_loop_rounds 3 ?_)
  refine pl_init (k:=0) (by omega) h4 hW0 rfl fun a5 u3 m0 r0 g0 k0 h5 hW3 hM3 hr3 ha3 hk3 ho3 mv3=> ?_
  refine pl_init (k:=1) (by omega) h5 hW3 rfl fun a6 u4 m1 r1 g1 k1 h6 hW4 hM4 hr4 ha4 hk4 ho4 mv4=> ?_
  have z3:=mv3.size
  have lM3:=hM3.mlt
  have hb3:=mv3.bl hb2 (fun x e=>by omega) (by omega)
  have hb4:=mv4.bl hb3 (fun x e=>by omega) (by omega)
  have kp: ∀{g:Nat} {t:TypeId} {cs:Array Value},g≠gw->Blk u3 g t cs->Blk u4 g t cs:=fun hne hb=>mv4.stay hb hne
  have hW4:Blk u4 gw wdT #[pv m0,pv m1,pv r0,pv r1,fA g0,fA g1,fW k0,fW k1,.slice none 0 0]:=hW4
  have lk3:=hk3.lt
  obtain⟨c,s,ec,eg,hS,hL0,hn0⟩:=ps_start hb4 hW4 (hM3.keepB mv4.size (fun b hb=>hb.elim False.elim fun hb=>mv4.block b (by omega) (fun q=>by have:=q.1;omega))) hM4 (kp (by omega) hr3) hr4 (kp (by omega) ha3) ha4 (kp (by omega) hk3) hk4 (by omega)
  show Code.wp _ pl9L1 _ a6 u4
  unfold pl9L1
  refine wp_seq (wp_seq (rg_wp (pl9_r4 (k:=2) (b13:=false) h6 rfl (decide_eq_false (by omega)) fun a7 h7=>wpx (h7.look 13 rfl) ?_)))
  refine then_exit' (in_block2 ?_)
  show Code.wp _ (.seq (.seq (r_pl9 14) (.cond (.tmp 77) (.seq (r_pl9 15) .ret) .skip)) (.seq (.seq (r_pl9 16) (.block 2 (.loop pl9L0))) (.seq (r_pl9 23) .ret))) _ a7 u4
  refine wp_seq (wp_seq (rg_wp (pl9_r14 (b3:=true) h7 rfl fun a8 h8=>wpo (h8.look 77 rfl) ?_)))
  refine wp_seq (wp_seq (rg_wp (pl9_r16 h8 fun a9 h9=> ?_)))
  have h9:Sl 102 a9 [(6,.int .i64 ((0:Nat):Int)),(4,.pointer (some ⟨gw,0,none⟩)),(0,.slice pa xs.length sc)]:=h9.to ⟨rfl,rfl,rfl,trivial⟩
  refine wp_block ?_
  rw[<-ec] at hown
  refine wp_loop (fun a' v=> ∃(i:Nat) (s:St),i<=150/\i<=xs.length/\Sl 102 a' [(6,.int .i64 (i:Int)),(4,.pointer (some ⟨gw,0,none⟩)),(0,.slice pa xs.length sc)]/\PS c s v/\BdO s (2*i) (2000200*i)) (fun a' _=>muTo 150 (slot a' 6))
    ⟨0, s, by omega, Nat.zero_le _, h9, hS, ⟨fun k hk => by
      obtain⟨e1,e2⟩:=hL0 k hk
      rw[e1,e2]
      exact⟨Nat.zero_le _,by omega,by omega⟩,by omega⟩⟩ ?_
  rintro a10 v ⟨i,s,hi,hix,h10,hSv,hB1,hB2⟩
  rw[h10.look 6 rfl,muTo_int]
  unfold pl9L0
  have fin: ∀(a':Act),Sl 102 a' [(0,.slice pa xs.length sc)]->(Code.seq (r_pl9 23) .ret).wp Tryd.prog (bodyPost Tryd.prog Tryd.f4 fun e w'=>e=.returned (.bool true)/\Below w.heap.size w w') a' v:=fun a' g=>by
    refine wp_seq (rg_wp (pl9_r23 g fun a2 h2=>wp_ret ?_))
    refine ret1 rfl h2 rfl ⟨rfl, ?_⟩
    have:=hSv.mem.bel
    rw[ec] at this
    exact this
  by_cases hl:i<xs.length
  · by_cases hl2:i<150
    · refine wp_seq (wp_seq (rg_wp (pl9_r17_t (b84:=true) h10 rfl rfl (decide_eq_true (by omega)) (decide_eq_true (by omega)) fun a11 h11=>wpn (h11.look 85 rfl) ?_)))
      obtain⟨x,hx⟩: ∃x,xs[i]? =some x:=⟨xs[i],List.getElem?_eq_getElem _⟩
      obtain⟨b,o,rfl,hbl,hcs,hso⟩:=hxs i x hx
      have hbv:v.heap[b]? =w.heap[b]? :=by
        have:=hSv.mem.bel
        rw[ec] at this
        exact this.block b hbl
      refine wp_seq (wp_block ?_)
      refine wp_seq (rg_wp (pl9_r19 (sd:=some ⟨b,o,none⟩) (g91:=b) (o91:=o+i*49) (o:=x) (b7:=true) (C0:=fun u=> ∃s',PS c s' u/\Nx s s' v u 2 2000200) h11 rfl rfl rfl (fun w=>ix_at2 i Tryd.underlying46 (by kernel_rfl) hl w) (ldsA (cs:=x.cs.toList) Tryd.underlying59 rfl (by kernel_rfl) (fun j y hy=>(cell_same hbv).trans (hcs j y (by rw[<-Array.getElem?_toList];exact hy)))) (by
        have:=step_any (M:=5000) (N:=400000000) hown hSv (by rw[ec];exact hso) ⟨fun k hk=>by
          have:=hB1 k hk
          refine⟨?_, ?_, ?_⟩<;>omega,by omega⟩ (by omega) (by omega)
        rw[eg] at this
        exact this) fun a12 u5 hc h12=> ?_))
      obtain⟨s',hS',hN'⟩:=hc
      have hnn:=hN'.num
      have hkept:=kept_any (N:=s'.n) hS'.mem.out (by omega)
      rw[eg] at hkept
      refine wp_seq (rg_wp (pl9_r20 (b8:=true) (C0:=fun u=>u=u5) h12 rfl hkept fun a13 u6 hx6 h13=> ?_))
      subst hx6
      refine wp_seq (rg_wp (pl9_r21_t (b8:=true) h13 rfl rfl fun a14 h14=>wpc_off (h14.look 101 rfl) (block_norm ?_)))
      show Code.wp _ (r_pl9 18) _ a14 u6
      refine wpl (rg_wp (pl9_r18 h14 rfl (by omega) fun a15 h15=>⟨⟨i+1,s',by omega,hl,h15.to ⟨by simp,rfl,rfl,trivial⟩,hS',fun k hk=> ?_,by omega⟩, ?_⟩))
      · have e1:=hB1 k hk
        have e2:=hN'.len k hk
        have e3:=(hN'.evo k hk).1
        refine⟨?_, ?_, ?_⟩<;>omega
      · rw[h15.look 6 rfl,show((i:Int)+1)=((i+1:Nat):Int) by simp,muTo_int]
        omega
    · refine wp_seq (wp_seq (rg_wp (pl9_r17_t (b84:=false) h10 rfl rfl (decide_eq_true (by omega)) (decide_eq_false (by omega)) fun a11 h11=>wpx (h11.look 85 rfl) ?_)))
      exact then_exit' (in_block2 (fin a11 (h11.to ⟨rfl,trivial⟩)))
  · refine wp_seq (wp_seq (rg_wp (pl9_r17_f h10 rfl rfl (decide_eq_false (by omega)) fun a11 h11=>wpx (h11.look 85 rfl) ?_)))
    exact then_exit' (in_block2 (fin a11 (h11.to ⟨rfl,trivial⟩)))
end Go.Proofs.YtlhfickniegooaaDoor
