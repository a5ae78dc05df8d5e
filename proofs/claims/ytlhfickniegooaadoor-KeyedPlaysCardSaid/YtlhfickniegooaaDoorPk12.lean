/-
   Written by an AI agent.
-/
import Derived.Test.YtlhfickniegooaaDoorPk06
import Derived.Test.YtlhfickniegooaaDoorPk07
import Derived.Test.YtlhfickniegooaaDoorPk10
import Derived.Test.YtlhfickniegooaaDoorPk11
import Derived.Test.YtlhfickniegooaaDoorPk04
import Derived.RangeFuncNested
namespace Go.Proofs.YtlhfickniegooaaDoor
open Go.RowKit
set_option maxRecDepth 100000
def rB(d:Dt):Bool:=rightB d.h d.k
def kB(d:Dt):Bool:=keyB d.h d.k
def hV(d:Dt):Int:=hashV d.h d.k
def eqO(a b:Dt):Bool:=(equalD a.h a.k b.h b.k).1
theorem vRight{d:Dt}{m:Dm}{S:Nat->Prop}{w:World}(ho:d.ok)(hd:d.at w S m)(hown:OwnAt w):Calls Tryd.prog 33 #[.agg (d.cs m)] w fun e w'=>e=.returned (.bool (rB d))/\Below w.heap.size w w':=
 Right_any d.h d.k ho.h ho.k w S m.pa m.pc m.ia m.ic hd hown
theorem vKey{d:Dt}{m:Dm}{S:Nat->Prop}{w:World}(ho:d.ok)(hd:d.at w S m)(hown:OwnAt w):Calls Tryd.prog 34 #[.agg (d.cs m)] w (KeyPost d.h d.k w):=
 key_any d.h d.k ho.h ho.k ho.len w S m.pa m.pc m.ia m.ic hd hown
theorem vHash{d:Dt}{m:Dm}{S:Nat->Prop}{w:World}(ho:d.ok)(hd:d.at w S m)(hown:OwnAt w):Calls Tryd.prog 35 #[.agg (d.cs m)] w (HashPost d.h d.k w):=
 Hash_any d.h d.k ho.h ho.k ho.len w S m.pa m.pc m.ia m.ic hd hown
theorem vEqual{d d':Dt}{m m':Dm}{S T:Nat->Prop}{w:World}(ho:d.ok)(ho':d'.ok)(hd:d.at w S m)(hd':d'.at w T m')(hown:OwnAt w):Calls Tryd.prog 25 #[.agg (d.cs m),.agg (d'.cs m')] w (EqualPost d.h d.k d'.h d'.k w):=
 Equal_any d.h d.k d'.h d'.k ho.h ho.k ho'.h ho'.k w S T m.pa m.pc m.ia m.ic m'.pa m'.pc m'.ia m'.ic hd hd' hown
theorem OwnAt.old{w w':World}(h:OwnAt w)(hb:Below w.heap.size w w'):OwnAt w':=h.below hb (Nat.le_refl _)
theorem range_old{w w':World}{g o:Nat}{vs:List Value}(h:w.rangeAt g o vs)(hb:Below w.heap.size w w')(hg:g<w.heap.size):w'.rangeAt g o vs:=fun j v hj=>(hb.cell (p:=⟨g,o+j,none⟩) hg).trans (h j v hj)
theorem over_dat{w:World}{g:Nat}{t:TypeId}{cs:Array Value}(h:Blk w g t cs)(hz:cs.size=11)(d:Dt)(m:Dm):Blk (w.setCells g 0 (d.cs m).toList) g t (d.cs m):=by
 obtain⟨l⟩:=cs
 have hz:l.length=11:=hz
 match l,hz with
 | [a0,a1,a2,a3,a4,a5,a6,a7,a8,a9,a10],_=>
  have e:((d.cs m).toList.foldl (fun(p:Array Value×Nat) v=>(p.1.setIfInBounds p.2 v,p.2+1)) ((⟨[a0,a1,a2,a3,a4,a5,a6,a7,a8,a9,a10]⟩:Array Value),0)).1=d.cs m:=by kernel_rfl
  have h2:=Blk.setL (d.cs m).toList 0 _ _ h
  rw[e] at h2
  exact h2
theorem dat_whole{w:World}{g:Nat}{t:TypeId}{d:Dt}{m:Dm}(h:Blk w g t (d.cs m)):Lds Tryd.prog 31 (.pointer (some ⟨g,0,none⟩)) (.agg (d.cs m)) w:=dat_load h rfl
def zeroC:Array Value:=#[.int .i64 0,.string ⟨#[]⟩,.int .i64 0,.int .u64 0,.string ⟨#[]⟩,.int .i64 0,.int .i64 0,.int .i64 0,.int .i64 0,.slice none 0 0,.slice none 0 0]
theorem ix_u{n cap k g:Nat}(hk:k<n)(w:World):(Instr.indexAt 74 (.slice (some ⟨g,0,none⟩) n cap) (.int .u64 (k:Int))).run Tryd.prog w=.ok (.pointer (some ⟨g,k,none⟩)) w:=by
 obtain⟨i,hi1,hi2⟩:=Option.map_eq_some_iff.1 ptrInf
 have ha:(⟨g,0,none⟩:Addr).add k=⟨g,k,none⟩:=by
  unfold Addr.add
  split
  ·rename_i h;rw[h]
  ·simp
 simp[Instr.indexAt,asIntOf,run_underlying Tryd.underlying74,sizeOf,typeInfo,hi1,hi2,ha]
 omega
theorem rem_u{a b:Int}(h0:0<=a)(h1:a<=18446744073709551615)(hb:0<b)(w:World):(binOp .rem 26 (.int .u64 a) (.int .u64 b)).run Tryd.prog w=.ok (.int .u64 (a % b)) w:=by
 have e:a.tmod b=a % b:=Int.tmod_eq_emod_of_nonneg h0
 have h2:=Int.emod_nonneg a (show b≠0 by omega)
 have h3:a % b<=a:=by
  by_cases q:a<b
  ·rw[Int.emod_eq_of_lt h0 q];exact Int.le_refl _
  ·have:=Int.emod_lt_of_pos a hb;omega
 have hw:IntKind.u64.wrap (a % b)=a % b:=in_wrap ⟨by simpa[IntKind.min,IntKind.signed] using h2,by simp[IntKind.max,IntKind.signed,IntKind.bits];omega⟩
 have hb': ¬b=0:=by omega
 simp only[binOp,Op.intArith,Op.intDiv]
 simp[hb',e,hw]
theorem conv_u(n:Nat)(hn:n<=9223372036854775807)(w:World):(convert 3 26 (.int .i64 (n:Int))).run Tryd.prog w=.ok (.int .u64 (n:Int)) w:=by
 have hw:IntKind.u64.wrap (n:Int)=(n:Int):=in_wrap ⟨by simp[IntKind.min,IntKind.signed],by simp[IntKind.max,IntKind.signed,IntKind.bits];omega⟩
 simp[convert,run_underlying Tryd.underlying3,run_underlying Tryd.underlying26,Conv.intToInt,hw]
set_option maxHeartbeats 1000000 in
theorem kright_any(L:List (Dt×Dm))(hL:L.length<=1000)(g cap:Nat)(w:World)(hown:OwnAt w)(hlt:g<w.heap.size)(hrow: ∀(j:Nat) (d:Dt) (m:Dm),L[j]? =some (d,m)->w.rangeAt g (j*11) (d.cs m).toList/\d.ok/\∃S,d.at w S m):
  Calls Tryd.prog 21 #[.slice (some ⟨g,0,none⟩) L.length cap] w fun e w'=> ∃v,e=.returned v/\((if L.all (fun p=>rB p.1)=true then v=.nilIface else WrongAt w w' v)/\Below w.heap.size w w'):=by
 refine calls_ev (vs:=[.slice (some ⟨g,0,none⟩) L.length cap]) 18 Tryd.func21 ki_body (by kernel_rfl) (by simp) fun a0 h0=> ?_
 unfold kiBody
 refine wp_seq (rg_wp (ki_r0 h0 fun a1 h1=> ?_))
 refine wp_seq (wp_seq (rg_wp (ki_r1 h1 rfl fun a2 h2=> ?_)))
 refine wp_block ?_
 refine wp_loop (fun a' wr=> ∃j:Nat,j<=L.length/\(∀i p,i<j->L[i]? =some p->rB p.1=true)/\Sl 18 a' [(7,.int .i64 (j:Int)),(6,.int .i64 (L.length:Int)),(5,.slice (some ⟨g,0,none⟩) L.length cap)]/\Below w.heap.size w wr) (fun a' _=>muTo L.length (slot a' 7))
  ⟨0,by omega,fun i p h=>by omega,h2.to ⟨rfl,rfl,rfl,trivial⟩,Below.refl _ _⟩ ?_
 rintro a3 w3 ⟨j,hj,hall,h3,hb3⟩
 rw[h3.look 7 rfl,muTo_int]
 unfold kiL0
 by_cases hlt':j<L.length
 ·refine wp_seq (rg_wp (ki_r2 h3 rfl rfl (decide_eq_true (by omega)) fun a4 h4=> ?_))
  refine wp_seq (wpn (h4.look 8 rfl) ?_)
  obtain⟨⟨d,m⟩,hdm⟩: ∃p,L[j]? =some p:=⟨L[j],by simp[hlt']⟩
  obtain⟨hr,ho,S,hd⟩:=hrow j d m hdm
  have hz:=Blk.new w3 31 zeroC
  refine wp_seq (wp_block ?_)
  refine wp_seq (rg_wp (ki_r3 h4 rfl rfl (fun w=>ix_at (o:=j*11) (sz:=11) j rfl Tryd.underlying29 datInf hlt' rfl w) (ldsA (cs:=(d.cs m).toList) Tryd.underlying31 rfl datInf (range_old hr hb3 hlt)) (dat_store (d:=d) (m:=m) hz (by decide)) fun a5 h5=> ?_))
  have hB:=over_dat hz rfl d m
  have hb5:=below_setCells (d.cs m).toList 0 _ (bl_alloc (Below.refl w3.heap.size w3) (.cells zeroC 31)) (Nat.le_refl _)
  change Blk (World.setCells (w3.alloc (.cells zeroC 31)) w3.heap.size 0 (d.cs m).toList) _ _ _ at hB
  show Code.wp _ _ _ a5 (World.setCells (w3.alloc (.cells zeroC 31)) w3.heap.size 0 (d.cs m).toList)
  generalize World.setCells (w3.alloc (.cells zeroC 31)) w3.heap.size 0 (d.cs m).toList=w5 at hB hb5 ⊢
  have hb05:=bl_trans hb3 hb5
  refine wp_seq (rg_wp (ki_r4 h5 rfl (dat_whole hB) (vRight ho (hd.old hb05) (hown.old hb05)) fun a6 w6 hb6 h6=> ?_))
  have hb06:=bl_trans hb05 hb6
  cases hrB:rB d with
  | true=>
   rw[hrB] at h6
   refine wpc_off (h6.look 13 rfl) (block_norm ?_)
   show Code.wp _ (r_ki 6) _ a6 w6
   refine wpl (rg_wp (ki_r6 h6 rfl (by omega) fun a7 h7=> ?_))
   refine⟨⟨j+1,by omega,fun i p hi hp=> ?_,h7.to ⟨rfl,rfl,rfl,trivial⟩,hb06⟩, ?_⟩
   ·rcases Nat.lt_or_ge i j with q | q
    ·exact hall i p q hp
    ·obtain rfl:i=j:=by omega
     rw[hdm] at hp
     injection hp with hp
     subst hp
     exact hrB
   ·rw[h7.look 7 rfl]
    show muTo L.length (.int .i64 ((j+1:Nat):Int))<_
    rw[muTo_int]
    omega
  | false=>
   rw[hrB] at h6
   refine wp_cond_true (h6.look 13 rfl) ?_
   refine wp_seq (rg_wp (ki_r5 h6 fun a7 h7=>wp_ret ?_))
   repeat (first | with_reducible refine then_ret ?_ | with_reducible refine block_ret ?_)
   refine ret1 rfl h7 rfl ⟨_,rfl, ?_,bl_alloc hb06 _⟩
   rw[if_neg (by
    rw[List.all_eq_true]
    intro hh
    have:=hh (d,m) (List.mem_of_getElem? hdm)
    rw[show rB (d,m).1=false from hrB] at this
    cases this)]
   exact⟨_,rfl,Blk.new _ _ _,hb06.size⟩
 ·refine wp_seq (rg_wp (ki_r2 h3 rfl rfl (decide_eq_false (by omega)) fun a4 h4=> ?_))
  refine wp_seq (wpc_exit (h4.look 8 rfl) ?_)
  refine then_exit' (then_exit' (in_block2 ?_))
  show Code.wp _ (Code.seq (r_ki 7) .ret) _ a4 w3
  refine wp_seq (rg_wp (ki_r7 h4 fun a5 h5=>wp_ret ?_))
  refine ret1 rfl h5 rfl ⟨_,rfl, ?_,hb3⟩
  rw[if_pos (by
   rw[List.all_eq_true]
   intro p hp
   obtain⟨i,hi⟩:=List.mem_iff_getElem?.1 hp
   exact hall i p (by have:=(List.getElem?_eq_some_iff.1 hi).1;omega) hi)]
def bkB(n:Nat)(h:Int)(x:En):Bool:=x.hash.toNat % n==h.toNat % n
def Links(n:Nat)(R:List En)(N B A:Nat->Option Addr):Prop:= ∀X e Z,R=X++e::Z->N e.g=pO (Z.find? (bkB n e.hash))/\B e.g=pO Z.head? /\A e.g=pO X.getLast?
def HeadsOk(n:Nat)(R:List En)(H:Nat->Option Addr):Prop:= ∀i,i<n->H i=pO (R.find? (fun x=>x.hash.toNat % n==i))
structure KeysOk (R:List En):Prop where
 right: ∀e∈R,rB e.key=true/\kB e.key=true
 num: ∀e∈R,e.hash=hV e.key/\e.own=eqO e.key e.key
def MapAt(w:World)(m:Nat)(R:List En)(D O:Nat->Prop):Prop:= ∃hb n H N B A,0<n/\n<=1099511627776/\Raw w m hb n (pO R.getLast?) (pO R.head?) (R.length:Int) H N B A R D/\HeadsOk n R H/\Links n R N B A/\KeysOk R/\(O m/\O hb/\(∀e∈R,O e.g)/\∀b,O b->b<w.heap.size)
theorem MapAt.old{w w':World}{m:Nat}{R:List En}{D O:Nat->Prop}(h:MapAt w m R D O)(hb:Below w.heap.size w w'):MapAt w' m R D O:=
 let⟨a,b,c,d,e,f,h1,h2,h3,h4,h5,h6,o1,o2,o3,o4⟩:=h;⟨a,b,c,d,e,f,h1,h2,h3.old hb,h4,h5,h6,o1,o2,o3,fun b hb'=>Nat.lt_of_lt_of_le (o4 b hb') hb.size⟩
theorem MapAt.mlt{w:World}{m:Nat}{R:List En}{D O:Nat->Prop}(h:MapAt w m R D O):m<w.heap.size:=
 let⟨_,_,_,_,_,_,_,_,h3,_⟩:=h;h3.mlt
def fE(R:List En)(d:Dt):Option En:=R.find? (fun e=>e.hash==hV d&&eqO e.key d)
def u64R(x:Int):Prop:=0<=x/\x<=18446744073709551615
theorem wrap_r(x:Int):u64R (IntKind.u64.wrap x):=by
 unfold u64R
 simp[IntKind.wrap,IntKind.signed,IntKind.bits]
 omega
theorem mixL_r: ∀(l:List Int) (a:Int),u64R a->u64R (mixL l a)
 | [],_,h=>h
 | x::r,a,_=>by unfold mixL;exact mixL_r r _ (wrap_r _)
theorem hashF_r: ∀(f:Fo) (a:Int),u64R a->u64R (hashF f a)
 | .nil,_,h=>by unfold hashF;exact h
 | .cons h k r,a,_=>by unfold hashF;exact hashF_r r _ (wrap_r _)
theorem hash_range(d:Dt):0<=hV d/\hV d<=18446744073709551615:=by
 have h: ∀(h:Hd) (k:Fo),u64R (hashD h k):=fun h k=>hashF_r k _ (mixL_r _ _ (wrap_r _))
 unfold hV hashV
 split<;>exact h _ _
theorem knew_any(w:World):Calls Tryd.prog 7 #[] w fun e w'=>e=.returned (.pointer (some ⟨w.heap.size,0,none⟩))/\MapAt w' w.heap.size [] (fun _=>False) (fun b=>b=w.heap.size)/\Below w.heap.size w w':=by
  refine calls_ev (vs:=[]) 12 Tryd.func7 kn_body (by kernel_rfl) (by simp) fun a0 h0=> ?_
  unfold knBody
  refine wp_seq (rg_wp (kn_r0 h0 fun a1 h1=> ?_))
  refine wp_seq (rg_wp (kn_r1 h1 fun a2 h2=> ?_))
  have hB:=Blk.new w mapT #[.pointer none,.pointer none,.pointer none,.pointer none,.pointer none,.pointer none,.pointer none,.pointer none,.slice none 0 0,.pointer none,.pointer none,.int .i64 0]
  have hb1:=bl_alloc (Below.refl w.heap.size w) (.cells #[.pointer none,.pointer none,.pointer none,.pointer none,.pointer none,.pointer none,.pointer none,.pointer none,.slice none 0 0,.pointer none,.pointer none,.int .i64 0] mapT)
  generalize w.alloc (.cells #[.pointer none,.pointer none,.pointer none,.pointer none,.pointer none,.pointer none,.pointer none,.pointer none,.slice none 0 0,.pointer none,.pointer none,.int .i64 0] mapT)=w1 at hB hb1 ⊢
  have hsl: ∀w',(Instr.sliceAt 73 (.pointer (some ⟨w.heap.size,0,none⟩)) none none none).run Tryd.prog w'=.ok (.slice (some ⟨w.heap.size,0,none⟩) 8 8) w':=fun w'=>by kernel_rfl
  refine wp_seq (rg_wp (kn_r2 h2 rfl hsl (one_store hB (by kernel_rfl) (by decide) rfl) fun a3 h3=> ?_))
  have hB2:=hB.set_ 8 (.slice (some ⟨w.heap.size,0,none⟩) 8 8)
  have hb2:=below_setCells [.slice (some ⟨w.heap.size,0,none⟩) 8 8] 8 _ hb1 (Nat.le_refl _)
  change Blk (w1.setCells w.heap.size 8 [.slice (some ⟨w.heap.size,0,none⟩) 8 8]) _ _ _ at hB2
  generalize w1.setCells w.heap.size 8 [.slice (some ⟨w.heap.size,0,none⟩) 8 8]=w2 at hB2 hb2 ⊢
  refine wp_seq (rg_wp (kn_r3 h3 rfl fun a4 h4=>wp_ret ?_))
  refine ret1 rfl h4 rfl ⟨rfl,⟨w.heap.size,8,fun _=>none,fun _=>none,fun _=>none,fun _=>none,by omega,by omega, ?_,fun i _=>rfl,(by intro X e Z h;cases X<;>cases h),⟨(fun _ h=>by cases h),(fun _ h=>by cases h)⟩,rfl,rfl,(fun _ h=>by cases h),fun b hb=>by rw[hb];exact hB2.lt⟩,hb2⟩
  exact { map := ⟨_, hB2, rfl, rfl, rfl, rfl, rfl⟩
          heads:=⟨_,_,hB2,by simp,fun i hi=>by
            match i,hi with
            | 0,_=>rfl
            | 1,_=>rfl
            | 2,_=>rfl
            | 3,_=>rfl
            | 4,_=>rfl
            | 5,_=>rfl
            | 6,_=>rfl
            | 7,_=>rfl,fun _=>rfl⟩
          ent:=fun _ h=>by cases h
          nd:=List.nodup_nil
          far:=fun _ h=>by cases h
          out:=⟨id,id,fun _ h=>by cases h⟩
          ok:=fun _ h=>by cases h
          dlt:=fun _ h=>h.elim}
theorem klen_any{w:World}{m:Nat}{R:List En}{D O:Nat->Prop}(h:MapAt w m R D O):Calls Tryd.prog 14 #[.pointer (some ⟨m,0,none⟩)] w fun e w'=>e=.returned (.int .i64 (R.length:Int))/\w'=w:=by
 obtain⟨hb,n,H,N,B,A,h1,h2,hR,_⟩:=h
 obtain⟨cs,hB,hz,c8,c9,c10,c11⟩:=hR.map
 refine calls_ev (vs:=[.pointer (some ⟨m,0,none⟩)]) 7 Tryd.func14 kz_body (by kernel_rfl) (by simp) fun a0 h0=> ?_
 unfold kzBody
 refine wp_seq (rg_wp (kz_r0 h0 fun a1 h1=> ?_))
 refine wp_seq (rg_wp (kz_r1 h1 rfl (one_load hB Tryd.underlying3 rfl c11) fun a2 h2=>wp_ret ?_))
 exact ret1 rfl h2 rfl ⟨rfl,rfl⟩
end Go.Proofs.YtlhfickniegooaaDoor

namespace Go.Proofs.YtlhfickniegooaaDoor
open Go.RowKit
set_option maxRecDepth 100000
theorem equalH_fault{a b:Hd}(ho:oneB a b=true)(h:(equalH a b).2≠emp):(equalH b b).2≠emp:=by
 obtain⟨h1,h2⟩:=oneB_parts ho
 unfold equalH at h ⊢
 rw[h1,h2] at h
 split at h
 ·exact absurd rfl h
 ·rename_i h3
  rw[if_neg h3]
  split at h
  ·rename_i h4
   rw[if_pos h4]
   exact h
  ·rename_i h4
   rw[if_neg h4]
   split at h
   ·exact absurd rfl h
   ·exact absurd rfl h
theorem equalD_fault'{a b:Hd}{k l:Fo}(hF:k.len=l.len->(equalF k l).2≠emp->(equalF l l).2≠emp)(h:(equalD a k b l).2≠emp):(equalD b l b l).2≠emp:=by
 unfold equalD at h ⊢
 rw[oneB_refl]
 by_cases ho:oneB a b=false
 ·rw[if_pos ho] at h
  exact absurd rfl h
 ·rw[if_neg ho] at h
  rw[if_neg (by decide)]
  have ho':oneB a b=true:=by simpa using ho
  have hk:=(oneB_parts ho').1
  by_cases h8:a.kind=8
  ·rw[if_pos h8] at h
   rw[if_pos (hk ▸ h8)]
   by_cases hl:k.len≠l.len
   ·rw[if_pos hl] at h
    exact absurd rfl h
   ·rw[if_neg hl] at h
    rw[if_neg (by simp)]
    exact hF (Decidable.not_not.1 hl) h
  ·rw[if_neg h8] at h
   rw[if_neg (hk ▸ h8)]
   exact equalH_fault ho' h
theorem equalF_fault: ∀(f g:Fo),f.len=g.len->(equalF f g).2≠emp->(equalF g g).2≠emp
 | .nil,.nil,_,h=>h
 | .nil,.cons _ _ _,e,_=>by simp[Fo.len] at e
 | .cons _ _ _,.nil,e,_=>by simp[Fo.len] at e
 | .cons a k f,.cons b l g,e,h=>by
  rw[equalF_cons] at h ⊢
  by_cases h1:(equalD a k b l).1=true
  ·rw[if_pos h1] at h
   rw[eqD_self h1,if_pos rfl]
   exact equalF_fault f g (by simpa[Fo.len] using e) h
  ·rw[if_neg h1] at h
   have h2:(equalD b l b l).2≠emp:=equalD_fault' (fun e' h'=>equalF_fault k l e' h') h
   rw[if_neg (by rw[equalD_no h2];decide)]
   exact h2
theorem equalD_fault{a b:Dt}(h:(equalD a.h a.k b.h b.k).2≠emp):(equalD b.h b.k b.h b.k).2≠emp:=equalD_fault' (fun e h=>equalF_fault _ _ e h) h
theorem held_self(d:Dt):heldS d.h d.k=(equalD d.h d.k d.h d.k).2:=by
 rw[held_own]
 by_cases h8:d.h.kind=8<;>simp[equalD,oneB_refl,h8]
theorem no_fault{a d:Dt}(hr:rB d=true)(hk:kB d=true):(equalD a.h a.k d.h d.k).2=emp:=by
 apply Decidable.byContradiction
 intro h
 have h2:=equalD_fault h
 rw[<-held_self] at h2
 have h3:=key_held (h:=d.h) (k:=d.k) hr
 rw[show keyB d.h d.k=true from hk] at h3
 exact h2 (by simpa using h3.symm)
theorem neq_none(p:Addr)(w:World):(binOp .neq 72 (.pointer (some ⟨p.block,0,none⟩)) (.pointer none)).run Tryd.prog w=.ok (.bool true) w:=by kernel_rfl
theorem neq_nn(w:World):(binOp .neq 72 (.pointer none) (.pointer none)).run Tryd.prog w=.ok (.bool false) w:=by kernel_rfl
theorem eql_none(p:Addr)(w:World):(binOp .eql 72 (.pointer (some ⟨p.block,0,none⟩)) (.pointer none)).run Tryd.prog w=.ok (.bool false) w:=by kernel_rfl
theorem eql_nn(w:World):(binOp .eql 72 (.pointer none) (.pointer none)).run Tryd.prog w=.ok (.bool true) w:=by kernel_rfl
def FindR(R:List En)(d:Dt)(w:World)(e:Ending)(w':World):Prop:=Below w.heap.size w w'/\
 if kB d=true then e=.returned (.tuple #[.pointer (pO (fE R d)),.int .u64 (hV d),.nilIface]) else ∃v,e=.returned (.tuple #[.pointer none,.int .u64 0,v])/\FaultAt w w' v keyW (heldS d.h d.k)
theorem ret3{P:Program}{fn:Func}{R:Ending->World->Prop}{a:Act}{w:World}{n t u s:Nat}{l:List (Nat×Value)}{v x y:Value}(hr:fn.results=#[.tmp t,.tmp u,.tmp s])(hs:Sl n a l)(e:l.lookup t=some v)(e2:l.lookup u=some x)(e3:l.lookup s=some y)(h:R (.returned (.tuple #[v,x,y])) w):bodyPost P fn R .ret a w:=
 bodyPost_ret (v:=.tuple #[v,x,y]) (by
  have h1:=hs.look t e
  have h2:=hs.look u e2
  have h3:=hs.look s e3
  unfold slot at h1 h2 h3
  simp[results,hr] at h1 h2 h3 ⊢
  rw[h1,h2,h3]
  exact⟨rfl,rfl,rfl⟩) hs.defers h
theorem find_bk{R:List En}{n:Nat}{h:Int}{p:En->Bool}(hp: ∀e∈R,p e=true->bkB n h e=true):R.find? (bkB n h)=none->R.find? p=none:=fun hn=>by
 rw[List.find?_eq_none] at hn ⊢
 exact fun e he hpe=>hn e he (hp e he hpe)
set_option maxHeartbeats 2000000 in
theorem kfind_any{w:World}{m:Nat}{R:List En}{D O:Nat->Prop}(hM:MapAt w m R D O){d:Dt}{md:Dm}{S:Nat->Prop}(ho:d.ok)(hr:rB d=true)(hd:d.at w S md)(hown:OwnAt w):
    Calls Tryd.prog 22 #[.pointer (some ⟨m,0,none⟩),.agg (d.cs md)] w (FindR R d w):=by
  refine calls_ev (vs:=[.pointer (some ⟨m,0,none⟩),.agg (d.cs md)]) 69 Tryd.func22 kf_body (by kernel_rfl) (by simp) fun a0 h0=> ?_
  unfold kfBody
  refine wp_seq (rg_wp (kf_r0 h0 rfl fun a1 h1=> ?_))
  have hB1:=Blk.new w 31 (d.cs md)
  have hb1:=bl_alloc (Below.refl w.heap.size w) (.cells (d.cs md) 31)
  generalize w.alloc (.cells (d.cs md) 31)=w1 at hB1 hb1 ⊢
  refine wp_seq (wp_seq (rg_wp (kf_r1 h1 rfl (dat_whole hB1) ((vKey ho (hd.old hb1) (hown.old hb1)).mono fun e w' hh=>let⟨h1,v,h2,h3⟩:=hh;⟨v,h2,And.intro h1 h3⟩) fun a2 v2 w2 hx h2=> ?_)))
  obtain⟨hb2,hv⟩:=hx
  have hb02:=bl_trans hb1 hb2
  unfold KeyV at hv
  rw[if_pos (show rightB d.h d.k=true from hr)] at hv
  cases hk:kB d with
  | false=>
    have hk': ¬keyB d.h d.k=true:=by rw[show keyB d.h d.k=false from hk];decide
    rw[if_neg hk'] at hv
    obtain⟨g,rfl,hg⟩:=hv
    refine wp_seq (rg_wp (kf_r2e h2 rfl fun a3 h3=>wp_cond_true (h3.look 16 rfl) ?_))
    refine wp_seq (rg_wp (kf_r3 h3 rfl fun a4 h4=>wp_ret (then_ret ?_)))
    exact ret3 rfl h4 rfl rfl rfl ⟨hb02,by rw[hk,if_neg (by decide)];exact⟨_,rfl,g,rfl,hg.1,Nat.le_trans hb1.size hg.2⟩⟩
  | true=>
  rw[if_pos (show keyB d.h d.k=true from hk)] at hv
  subst hv
  have fin: ∀{a':Act} {w':World} {l'} {r:Option Addr},Sl 69 a' l'->l'.lookup 4=some (.pointer r)->l'.lookup 5=some (.int .u64 (hV d))->l'.lookup 6=some .nilIface->Below w.heap.size w w'->r=pO (fE R d)->
      bodyPost Tryd.prog Tryd.f22 (FindR R d w) .ret a' w':=fun h' e4 e5 e6 hb e=>by
    subst e
    exact ret3 rfl h' e4 e5 e6 ⟨hb,by rw[hk,if_pos rfl]⟩
  refine wp_seq (rg_wp (kf_r2n h2 rfl fun a3 h3=>wpo (h3.look 16 rfl) ?_))
  have hB2:=hB1.below hb2 hB1.lt
  refine wp_seq (rg_wp (kf_r4 (h:=hV d) h3 rfl (dat_whole hB2) ((vHash ho (hd.old hb02) (hown.old hb02)).mono fun e w' hh=>by
    obtain⟨q1,nn,v,q2,q3,q4⟩:=hh
    unfold KeyV at q3
    rw[if_pos (show rightB d.h d.k=true from hr),if_pos (show keyB d.h d.k=true from hk)] at q3
    rw[if_pos (by rw[show rightB d.h d.k=true from hr,show keyB d.h d.k=true from hk];rfl)] at q4
    exact⟨v,by rw[q2,q4];rfl,And.intro q3 q1⟩) fun a4 v4 w4 hx h4=> ?_))
  obtain⟨rfl,hb4⟩:=hx
  have hb04:=bl_trans hb02 hb4
  refine wp_seq (wp_seq (rg_wp (kf_r5n h4 rfl fun a5 h5=>wpo (h5.look 24 rfl) ?_)))
  obtain⟨hb,n,H,N,B,A,hn0,hn1,hR,hH,hLk,hKO,_⟩:=hM.old hb04
  obtain⟨cs,hBm,hz,c8,_⟩:=hR.map
  obtain⟨t,hs,hBh,hhz,hhs,_⟩:=hR.heads
  have hran:=hash_range d
  have hmod:(hV d) % (n:Int)=(((hV d).toNat % n:Nat):Int):=by
    rw[Int.natCast_emod,Int.toNat_of_nonneg hran.1]
  have hklt:(hV d).toNat % n<n:=Nat.mod_lt _ hn0
  refine wp_seq (wp_seq (rg_wp (kf_r7 h5 rfl rfl (one_load hBm Tryd.underlying74 rfl c8) (fun w=>conv_u n (by omega) w) (fun w=>rem_u hran.1 hran.2 (by omega) w) (fun w=>by rw[hmod];exact ix_u hklt w)
    (one_load hBh Tryd.underlying72 rfl (hhs _ hklt)) fun a6 mm h6=> ?_)))
  have hb06:Below w.heap.size w (w4.drewN mm):=below_drewN hb04 mm
  have hB4:Blk (w4.drewN mm) w.heap.size 31 (d.cs md):=(hB2.below hb4 hB2.lt).drewN mm
  have hR4:Raw (w4.drewN mm) m hb n (pO R.getLast?) (pO R.head?) (R.length:Int) H N B A R D:=hR.old (below_drewN (Below.refl _ _) mm)
  rw[hH _ hklt] at h6
  generalize w4.drewN mm=w6 at hb06 hB4 hR4 ⊢
  refine wp_block ?_
  refine wp_loop (fun a' wr=> ∃(X Z:List En),R=X++Z/\fE R d=fE Z d/\Sl 69 a' [(10,.pointer (pO (Z.find? (bkB n (hV d))))),(8,.int .u64 (hV d)),(3,.pointer (some ⟨w.heap.size,0,none⟩)),(0,.pointer (some ⟨m,0,none⟩))]/\Below w6.heap.size w6 wr)
    (fun a' _=>match slot a' 10 with
      | .pointer (some p)=>(R.map (·.g)).length-(R.map (·.g)).idxOf p.block
      | _=>0)
    ⟨[],R,rfl,rfl,h6.to ⟨rfl,rfl,rfl,rfl,trivial⟩,Below.refl _ _⟩ ?_
  rintro a7 w7 ⟨X,Z,hXZ,hfE,h7,hb7⟩
  have hb07:=bl_trans hb06 hb7
  have hR7:=hR4.old hb7
  unfold kfL0
  cases hf:Z.find? (bkB n (hV d)) with
  | none=>
    rw[hf] at h7
    refine wp_seq (wp_seq (rg_wp (kf_r8n h7 rfl (fun w=>neq_nn w) fun a8 h8=>wpx (h8.look 41 rfl) ?_)))
    refine then_exit' (in_block2 ?_)
    show Code.wp _ (Code.seq (r_kf 14) .ret) _ a8 w7
    refine wp_seq (rg_wp (kf_r14 h8 rfl fun a9 h9=>wp_ret ?_))
    refine fin h9 rfl rfl rfl hb07 ?_
    rw[hfE]
    have:fE Z d=none:=find_bk (n:=n) (h:=hV d) (fun e _ he=>by
      simp only[Bool.and_eq_true,beq_iff_eq] at he
      simp[bkB,he.1]) hf
    rw[this]
    rfl
  | some e=>
    obtain⟨hbk,Z1,Z2,hZ,hno⟩:=List.find?_eq_some_iff_append.1 hf
    rw[hf] at h7
    have hR7e:R=(X++Z1)++e::Z2:=by rw[hXZ,hZ,List.append_assoc]
    have heR:e∈R:=by rw[hR7e];simp
    obtain⟨ma,mb,hBe,hka,hva⟩:=hR7.ent e heR
    have hpe:pO (some e)=some ⟨e.g,0,none⟩:=rfl
    rw[hpe] at h7
    have hix:(R.map (·.g)).idxOf e.g=(X++Z1).length:=by
      have hnd:=hR7.nd
      rw[hR7e,List.map_append,List.map_cons] at hnd ⊢
      rw[List.idxOf_append,if_neg]
      · simp
      · intro hm
        have:=(List.nodup_append.1 hnd).2.2
        exact this _ hm _ List.mem_cons_self rfl
    have hmu:(match slot a7 10 with
      | .pointer (some p)=>(R.map (·.g)).length-(R.map (·.g)).idxOf p.block
      | _=>0)=R.length-(X++Z1).length:=by
      rw[h7.look 10 rfl]
      show(R.map (·.g)).length-(R.map (·.g)).idxOf e.g=_
      rw[hix,List.length_map]
    rw[hmu]
    refine wp_seq (wp_seq (rg_wp (kf_r8e h7 rfl (fun w=>neq_none ⟨e.g,0,none⟩ w) fun a8 h8=>wpn (h8.look 41 rfl) ?_)))
    have next: ∀(a':Act) (w':World) l',Sl 69 a' l'->AllL l' [(10,.pointer (some ⟨e.g,0,none⟩)),(8,.int .u64 (hV d)),(3,.pointer (some ⟨w.heap.size,0,none⟩)),(0,.pointer (some ⟨m,0,none⟩))]->Below w6.heap.size w6 w'->(e.hash==hV d&&eqO e.key d)=false->
        ∀ Q : Exit → Act → World → Prop, (∀ a'', ((∃ (X Z : List En), R = X ++ Z ∧ fE R d = fE Z d ∧ Sl 69 a'' [(10, .pointer (pO (Z.find? (bkB n (hV d))))), (8, .int .u64 (hV d)), (3, .pointer (some ⟨w.heap.size, 0, none⟩)), (0, .pointer (some ⟨m, 0, none⟩))] ∧ Below w6.heap.size w6 w') ∧
          (match slot a'' 10 with
            | .pointer (some p)=>(R.map (·.g)).length-(R.map (·.g)).idxOf p.block
            | _=>0)<R.length-(X++Z1).length)->Q .normal a'' w')->(r_kf 9).wp Tryd.prog Q a' w':=fun a' w' l' h' hl hb' hne Q hQ=>by
      have hR':=hR4.old hb'
      obtain⟨ma,mb,hBe,_⟩:=hR'.ent e heR
      have hN:=(hLk (X++Z1) e Z2 hR7e).1
      refine wpl (rg_wp (kf_r9 (h'.to hl) rfl (one_load hBe Tryd.underlying72 rfl (v:=.pointer (N e.g)) rfl) fun a9 h9=>hQ a9 ⟨⟨(X++Z1)++[e],Z2,by rw[hR7e];simp, ?_, ?_,hb'⟩, ?_⟩))
      · rw[hfE,hZ]
        unfold fE
        rw[List.find?_append]
        have:Z1.find? (fun e=>e.hash==hV d&&eqO e.key d)=none:=by
          rw[List.find?_eq_none]
          intro x hx he
          have:=hno x hx
          simp only[Bool.and_eq_true,beq_iff_eq] at he
          simp[bkB,he.1] at this
        rw[this,Option.none_or,List.find?_cons,hne]
      · have hbe:bkB n e.hash=bkB n (hV d):=by
          funext x
          unfold bkB at hbk ⊢
          rw[beq_iff_eq] at hbk
          rw[hbk]
        rw[hN,hbe] at h9
        exact h9.to ⟨rfl,rfl,rfl,rfl,trivial⟩
      · rw[h9.look 10 rfl,hN]
        have hlen:R.length=(X++Z1).length+1+Z2.length:=by rw[hR7e];simp;omega
        cases hf2:Z2.find? (bkB n e.hash) with
        | none=>show 0<_;omega
        | some e2=>
          obtain⟨_,Y1,Y2,hY,_⟩:=List.find?_eq_some_iff_append.1 hf2
          show(R.map (·.g)).length-(R.map (·.g)).idxOf e2.g<_
          have hR2:R=((X++Z1)++e::Y1)++e2::Y2:=by rw[hR7e,hY];simp
          have hix2:(R.map (·.g)).idxOf e2.g=((X++Z1)++e::Y1).length:=by
            have hnd:=hR'.nd
            rw[hR2,List.map_append,List.map_cons] at hnd ⊢
            rw[List.idxOf_append,if_neg]
            · simp
            · intro hm
              have:=(List.nodup_append.1 hnd).2.2
              exact this _ hm _ List.mem_cons_self rfl
          rw[hix2,List.length_map]
          simp only[List.length_append,List.length_cons] at hlen ⊢
          omega
    refine wp_seq (wp_block ?_)
    have hhe:=hR7.ok e heR
    by_cases hhash:e.hash=hV d
    · refine wp_seq (rg_wp (kf_r10 h8 rfl rfl (one_load hBe Tryd.underlying26 rfl (v:=.int .u64 e.hash) rfl) (decide_eq_true hhash) fun a9 h9=>wp_cond_true (h9.look 51 rfl) ?_))
      have hnf:=no_fault (a:=e.key) hr hk
      have hB7:=hB4.below hb7 hB4.lt
      refine wp_seq (rg_wp (kf_r11 (C:=fun u=>Below w7.heap.size w7 u) (b11:=eqO e.key d) (er12:=.nilIface) h9 rfl rfl (fun u hu=>ent_key (hBe.below hu hBe.lt)) (fun u hu=>dat_whole (hB7.below hu hB7.lt))
        (fun u hu=>(vEqual hhe.1 ho (hka.old hu) ((hd.old hb07).old hu) ((hown.old hb07).old hu)).mono fun e' w' hh=>by
          obtain⟨q1,b,v,q2,q3⟩:=hh
          have hre:=(hKO.right e heR).1
          rw[if_pos (by rw[show rightB e.key.h e.key.k=true from hre,show rightB d.h d.k=true from hr];rfl),if_pos hnf,if_pos hnf] at q3
          obtain⟨rfl,rfl⟩:=q3
          exact⟨q2,bl_trans hu q1⟩) (below_drewN (Below.refl _ _) 1) fun a10 w10 hb10 h10=> ?_))
      have hb6a:=bl_trans hb7 hb10
      have hb0a:=bl_trans hb07 hb10
      cases heq:eqO e.key d with
      | true=>
        rw[heq] at h10
        refine wp_seq (rg_wp (kf_r12n_t h10 rfl rfl fun a11 h11=>wp_cond_true (h11.look 65 rfl) ?_))
        refine wp_seq (rg_wp (kf_r13 h11 rfl rfl fun a12 h12=>wp_ret ?_))
        repeat (first | with_reducible refine then_ret ?_ | with_reducible refine block_ret ?_)
        refine fin h12 rfl rfl rfl hb0a ?_
        rw[hfE,hZ]
        unfold fE
        rw[List.find?_append]
        have:Z1.find? (fun e=>e.hash==hV d&&eqO e.key d)=none:=by
          rw[List.find?_eq_none]
          intro x hx he
          have:=hno x hx
          simp only[Bool.and_eq_true,beq_iff_eq] at he
          simp[bkB,he.1] at this
        rw[this,Option.none_or,List.find?_cons,show(e.hash==hV d&&eqO e.key d)=true by rw[heq,hhash];simp]
        rfl
      | false=>
        rw[heq] at h10
        refine wp_seq (rg_wp (kf_r12n_f h10 rfl fun a11 h11=>wpc_off (h11.look 65 rfl) (block_norm ?_)))
        show Code.wp _ (r_kf 9) _ a11 w10
        exact next a11 w10 _ h11 ⟨rfl,rfl,rfl,rfl,trivial⟩ hb6a (by rw[heq];simp) _ (fun _ h=>h)
    · refine wp_seq (rg_wp (kf_r10 h8 rfl rfl (one_load hBe Tryd.underlying26 rfl (v:=.int .u64 e.hash) rfl) (decide_eq_false hhash) fun a9 h9=>wpc_off (h9.look 51 rfl) (block_norm ?_)))
      show Code.wp _ (r_kf 9) _ a9 w7
      exact next a9 w7 _ h9 ⟨rfl,rfl,rfl,rfl,trivial⟩ hb7 (by simp[hhash]) _ (fun _ h=>h)
end Go.Proofs.YtlhfickniegooaaDoor

namespace Go.Proofs.YtlhfickniegooaaDoor
open Go.RowKit
set_option maxRecDepth 100000
structure Two (w w':World) (g g':Nat):Prop where
 size:w'.heap.size=w.heap.size
 os:w'.os=w.os
 tape:w'.tape=w.tape
 output:w'.output=w.output
 block: ∀b,b≠g->b≠g'->w'.heap[b]? =w.heap[b]?
theorem setCells_keep(g:Nat): ∀(vs:List Value) (o:Nat) (w:World),(w.setCells g o vs).os=w.os/\(w.setCells g o vs).tape=w.tape/\(w.setCells g o vs).output=w.output
 | [],_,_=>⟨rfl,rfl,rfl⟩
 | v::r,o,w=>by
  obtain⟨h1,h2,h3⟩:=setCells_keep g r (o+1) (w.setCell ⟨g,o,none⟩ v)
  exact⟨h1,h2,h3⟩
theorem Two.mk1(w:World)(g g' o:Nat)(vs:List Value):Two w (w.setCells g o vs) g g':=
 ⟨setCells_size' g vs o w,(setCells_keep g vs o w).1,(setCells_keep g vs o w).2.1,(setCells_keep g vs o w).2.2,fun b hb _=>setCells_other vs o w hb⟩
theorem Two.then{w w1:World}{g g':Nat}(h:Two w w1 g g')(o:Nat)(vs:List Value):Two w (w1.setCells g' o vs) g g':=
 ⟨(setCells_size' g' vs o w1).trans h.size,((setCells_keep g' vs o w1).1).trans h.os,((setCells_keep g' vs o w1).2.1).trans h.tape,((setCells_keep g' vs o w1).2.2).trans h.output,fun b hb hb'=>(setCells_other vs o w1 hb').trans (h.block b hb hb')⟩
theorem Two.drew{w w1:World}{g g':Nat}{n:Nat}(h:Two (w.drewN n) w1 g g'):Two w w1 g g':=⟨h.size,h.os,h.tape,h.output,h.block⟩
theorem Two.below{w w':World}{g g' B:Nat}(h:Two w w' g g')(hg:B<=g)(hg':B<=g')(hB:B<=w.heap.size):Below B w w':=
 ⟨h.os,h.tape,h.output,by rw[h.size];exact Nat.le_refl _,fun k hk=>h.block k (by omega) (by omega)⟩
set_option maxHeartbeats 1000000 in
theorem kchain_any{w:World}{m hb n:Nat}{fr tx:Option Addr}{many:Int}{H N B A:Nat->Option Addr}{R:List En}{D:Nat->Prop}(hR:Raw w m hb n fr tx many H N B A R D)(hn0:0<n)(hn1:n<=1099511627776){e:En}(he:e∈R):
  Calls Tryd.prog 26 #[.pointer (some ⟨m,0,none⟩),.pointer (some ⟨e.g,0,none⟩)] w fun r w'=>r=.returned (.tuple #[])/\
   (Raw w' m hb n fr tx many (upd H (e.hash.toNat % n) (some e.p)) (upd N e.g (H (e.hash.toNat % n))) B A R D/\Two w w' e.g hb):=by
 obtain⟨cs,hBm,hz,c8,_⟩:=hR.map
 obtain⟨t,hs,hBh,hhz,hhs,_⟩:=hR.heads
 obtain⟨ma,mb,hBe,hka,hva⟩:=hR.ent e he
 obtain⟨ok1,ok2,ok3,ok4⟩:=hR.ok e he
 have hmod:e.hash % (n:Int)=((e.hash.toNat % n:Nat):Int):=by rw[Int.natCast_emod,Int.toNat_of_nonneg ok3]
 have hklt:e.hash.toNat % n<n:=Nat.mod_lt _ hn0
 refine calls_ev (vs:=[.pointer (some ⟨m,0,none⟩),.pointer (some ⟨e.g,0,none⟩)]) 33 Tryd.func26 kh_body (by kernel_rfl) (by simp) fun a0 h0=> ?_
 unfold khBody
 refine wp_seq (rg_wp (kh_r0 h0 rfl rfl (one_load hBe Tryd.underlying26 rfl (v:=.int .u64 e.hash) rfl) (one_load hBm Tryd.underlying74 rfl c8) (fun w=>conv_u n (by omega) w) (fun w=>rem_u ok3 ok4 (by omega) w) fun a1 mm h1=> ?_))
 rw[hmod] at h1
 have hR1:Raw (w.drewN mm) m hb n fr tx many H N B A R D:=hR.old (below_drewN (Below.refl _ _) mm)
 obtain⟨cs1,hBm1,_,c81,_⟩:=hR1.map
 obtain⟨t1,hs1,hBh1,_,hhs1,_⟩:=hR1.heads
 obtain⟨_,_,hBe1,_,_⟩:=hR1.ent e he
 have hT:Two w (w.drewN mm) e.g hb:=⟨rfl,rfl,rfl,rfl,fun _ _ _=>rfl⟩
 have hR2:=(hR1.old (below_drewN (Below.refl _ _) 1)).setN he (H (e.hash.toNat % n))
 have hR3:=hR2.setH (e.hash.toNat % n) hklt (some ⟨e.g,0,none⟩)
 have hT3:Two w ((((w.drewN mm).drewN 1).setCells e.g 23 [.pointer (H (e.hash.toNat % n))]).setCells hb (e.hash.toNat % n) [.pointer (some ⟨e.g,0,none⟩)]) e.g hb:=
  ((Two.mk1 ((w.drewN mm).drewN 1) e.g hb 23 _).then _ _).drew.drew
 obtain⟨cs2,hBm2,_,c82,_⟩:=hR2.map
 obtain⟨t2,hs2,hBh2,hz2,hhs2,_⟩:=hR2.heads
 refine wpl (rg_wp (kh_r1 (C:=fun u=>Lds Tryd.prog 74 (.pointer (some ⟨m,8,none⟩)) (.slice (some ⟨hb,0,none⟩) n n) u/\Lds Tryd.prog 72 (.pointer (some ⟨hb,e.hash.toNat % n,none⟩)) (.pointer (H (e.hash.toNat % n))) u)
  h1 rfl rfl rfl (fun u hu=>hu.1) (fun w=>ix_u hklt w) (fun u hu=>hu.2) ⟨one_load (hBm1.drewN 1) Tryd.underlying74 rfl c81,one_load (hBh1.drewN 1) Tryd.underlying72 rfl (hhs1 _ hklt)⟩
  (one_store (hBe1.drewN 1) ptrInf (by show 23<27;omega) rfl) ⟨one_load hBm2 Tryd.underlying74 rfl c82,one_load hBh2 Tryd.underlying72 rfl (hhs2 _ hklt)⟩
  (one_store hBh2 ptrInf (by omega) rfl) fun a2 h2=> ?_))
 exact bodyPost_end (results_none rfl _ _ _) h2.defers ⟨rfl,hR3,hT3⟩
end Go.Proofs.YtlhfickniegooaaDoor

namespace Go.Proofs.YtlhfickniegooaaDoor
open Go.RowKit
set_option maxRecDepth 100000
variable {df:List Deferred}
structure Ext (B:Nat) (w w':World):Prop where
 size:w.heap.size<=w'.heap.size
 os:w'.os=w.os
 tape:w'.tape=w.tape
 output:w'.output=w.output
 cells: ∀(b:Nat) (cs:Array Value) (t:TypeId) (fr:Nat×Nat),w.heap[b]? =some (Obj.cells cs t fr)->w'.heap[b]? =some (Obj.cells cs t fr)
 low: ∀b,b<B->w'.heap[b]? =w.heap[b]?
theorem Ext.of_below{B:Nat}{w w':World}(h:Below w.heap.size w w')(hB:B<=w.heap.size):Ext B w w':=
 ⟨h.size,h.os,h.tape,h.output,fun b cs t fr hb=>(h.block b (Array.getElem?_eq_some_iff.1 hb).1).trans hb,fun b hb=>h.block b (by omega)⟩
theorem Ext.put{B:Nat}{w:World}{l:Nat}{o:Obj}(o':Obj)(h:w.heap[l]? =some o)(hc:o.isCells=false)(hB:B<=l):Ext B w (w.putObj l o'):=
 ⟨by simp,rfl,rfl,rfl,fun b cs t fr hb=>(World.putObj_heap_other (fun e=>by subst e;rw[h] at hb;injection hb with hb;subst hb;cases hc)).trans hb,fun b hb=>World.putObj_heap_other (by omega)⟩
theorem Ext.refl(B:Nat)(w:World):Ext B w w:=⟨Nat.le_refl _,rfl,rfl,rfl,fun _ _ _ _ h=>h,fun _ _=>rfl⟩
theorem Ext.trans{B:Nat}{a b c:World}(h:Ext B a b)(k:Ext B b c):Ext B a c:=
 ⟨Nat.le_trans h.size k.size,k.os.trans h.os,k.tape.trans h.tape,k.output.trans h.output,fun b' cs t fr hb=>k.cells b' cs t fr (h.cells b' cs t fr hb),fun b' hb=>(k.low b' hb).trans (h.low b' hb)⟩
theorem Ext.below{B n:Nat}{w0 w w':World}(h:Ext B w w')(hb:Below n w0 w)(hn:n<=B):Below n w0 w':=
 ⟨h.os.trans hb.os,h.tape.trans hb.tape,h.output.trans hb.output,Nat.le_trans hb.size h.size,fun k hk=>(h.low k (by omega)).trans (hb.block k hk)⟩
theorem Blk.ext{B:Nat}{w w':World}{g:Nat}{t:TypeId}{cs:Array Value}(h:Blk w g t cs)(e:Ext B w w'):Blk w' g t cs:=e.cells _ _ _ _ h
theorem cell_ext{B:Nat}{w w':World}(e:Ext B w w'){b o:Nat}{v:Value}(h:w.cell? ⟨b,o,none⟩=some v):w'.cell? ⟨b,o,none⟩=some v:=by
 have hk: ∃cs t fr,w.heap[b]? =some (.cells cs t fr):=by
  unfold World.cell? at h
  split at h
  ·rename_i cs t fr hh;exact⟨_,_,_,hh⟩
  ·cases h
 obtain⟨cs,t,fr,hh⟩:=hk
 have h2:=e.cells _ _ _ _ hh
 exact(World.cell?_of_block (w:=w) (h2.trans hh.symm)).trans h
theorem PathAt.ext{B:Nat}{w w':World}{S:Nat->Prop}{pa:Option Addr}{l:List Int}(e:Ext B w w')(h:PathAt w S pa l):PathAt w' S pa l:=by
 rcases h with h | ⟨b,o,h1,h2,h3⟩
 ·exact .inl h
 ·exact .inr ⟨b,o,h1,h2,fun j x hx=>cell_ext e (h3 j x hx)⟩
theorem FoAt.ext{B:Nat}{w w':World}{S:Nat->Prop}(e:Ext B w w'): ∀(f:Fo) (b o:Nat),FoAt w S b o f->FoAt w' S b o f
 | .nil,_,_,_=>trivial
 | .cons h k r,b,o,⟨⟨pa,pc,ia,ic,h1,h2,h3,h3',h4,h4',h5⟩,h6⟩=>by
  refine⟨⟨pa,pc,ia,ic,fun j v hv=>cell_ext e (h1 j v hv),h2.ext e,h3,h3',h4,h4', ?_⟩,FoAt.ext e r b (o+11) h6⟩
  rcases h5 with h5 | ⟨b',o',e',hb',h5⟩
  ·exact .inl h5
  ·exact .inr ⟨b',o',e',hb',FoAt.ext e _ b' o' h5⟩
theorem Dt.at.ext{B:Nat}{w w':World}{S:Nat->Prop}{d:Dt}{m:Dm}(e:Ext B w w')(h:d.at w S m):d.at w' S m:=by
 refine⟨h.path.ext e,h.pcLe,h.pcMax, ?_,h.icLe,h.icMax⟩
 rcases h.kids with h | ⟨b,o,h1,h2,h3⟩
 ·exact .inl h
 ·exact .inr ⟨b,o,h1,h2,FoAt.ext e _ b o h3⟩
def SeqY{α:Type}(P:Program)(g:Nat)(lb:Array Value)(encs:α->Array Value)(M:World->Prop)(Y:List α->α->World->Prop)(E:List α->World->Prop)(w:World):Prop:=
  ∀ (l : Nat) (J Jx : List α → World → Prop) (W : World), Below w.heap.size w W → (∀ s A C, J s A → Below A.heap.size A C → J s C) → (∀ s A C, Jx s A → Below A.heap.size A C → Jx s C) → (∀ s A, J s A → M A) →
    (∀pre x W1,J pre W1->Y pre x W1->YieldAt Fence.wide 7 P l (encs x) W1 fun e W'=>(e=.returned (.bool true)/\J (pre++[x]) W')\/(e=.returned (.bool false)/\Jx (pre++[x]) W'))->
    J [] W->
    CallsIn Fence.wide 8 P g (#[.func (.yield l) #[] #[]]++lb) W fun e W'=>(∃v,e=.returned v)/\((∃xs,E xs W'/\J xs W')\/(∃pre,Jx pre W'))
def postY{α:Type}(B:Nat)(I:List α->World->Prop)(Ix:Code->List α->World->Prop)(xs:List α)(W:World):Exit->Act->World->Prop
 | .normal,_,W'=>KeepsFrom B W W'/\I xs W'
 | .ret,_,W'=>KeepsFrom B W W'/\Ix .ret xs W'
 | .exit id,_,W'=>KeepsFrom B W W'/\Ix (.exit id) xs W'
 | .goto t,_,W'=>KeepsFrom B W W'/\Ix (.goto t) xs W'
 | .panic _,_,_=>False
 | .outgrown,_,_=>False
theorem KeepsFrom.below{B:Nat}{W W':World}(h:Below W.heap.size W W'):KeepsFrom B W W':=⟨h.size,fun k o _ hk _=>(h.block k (Array.getElem?_eq_some_iff.1 hk).1).trans hk⟩
theorem range_y{P:Program}{α:Type}{g:Operand}{ps:Array Tmp}{assign body:Code}{Q:Exit->Act->World->Prop}{a:Act}{w w0:World}{gf:Nat}{lb:Array Value}(hg:a.eval g=.func (.func gf) #[] lb)(eg: ∀args w,(callFunc gf args).run P w=.ok (.enter gf args) w)
  {encs:α->Array Value} {M:World->Prop} {Y:List α->α->World->Prop} {E:List α->World->Prop} (hseq:SeqY P gf lb encs M Y E w0) (hb0:Below w0.heap.size w0 w) (hps: ∀x,(encs x).size=ps.size)
  (I:List α->World->Prop) (Ix:Code->List α->World->Prop) (hI: ∀s A C,I s A->Ext w.heap.size A C->I s C) (hIx: ∀c s A C,Ix c s A->Ext w.heap.size A C->Ix c s C) (hM: ∀s A,I s A->M A)
  (hY: ∀s x A C,Y s x A->Ext w.heap.size A C->Y s x C) (h0:I [] w) (Ax:α->Act->World->Prop) (hAx: ∀x a' A C,Ax x a' A->Ext w.heap.size A C->Ax x a' C)
  (hassign: ∀(l:Nat) (pre:List α) (x:α) (W:World) (K:Act->World->Prop),I pre W->Y pre x W->(∀a' W',KeepsFrom w.heap.size W W'->I pre W'->Y pre x W'->Ax x a' W'->K a' W')->
   assign.wpIn (rounds l) 7 P (Exit.then K (fun _ _ _=>False)) {tmps:=(ps.zip (encs x)).foldl (fun t (p,v)=>t.setIfInBounds p v) a.tmps,defers:=[]} W)
  (hbody: ∀(l:Nat) (pre:List α) (x:α) (a':Act) (W:World),I pre W->Y pre x W->Ax x a' W->body.wpIn (rounds l) 7 P (postY w.heap.size I Ix (pre++[x]) W) a' W)
  (hdone: ∀(xs:List α) (W:World),E xs W->I xs W->W.heap[w.heap.size]? =some (.deferred (some []))->Q .normal {a with defers:={target:=.collected w.heap.size,args:=#[]}::a.defers} W)
  (hstop: ∀(c:Code) (pre:List α) (W:World),Ix c pre W->W.heap[w.heap.size]? =some (.deferred (some []))->c.wp P Q {a with defers:={target:=.collected w.heap.size,args:=#[]}::a.defers} W)
  (hE: ∀s A C,E s A->Ext w.heap.size A C->E s C):
  (Code.rangeFunc g ps assign body).wp P Q a w:=by
 refine(wpIn_wide (n:=9)).1 (wpIn_rangeFunc ?_)
 intro fn hfn
 obtain⟨rec,hrec⟩: ∃rec:LoopState->Option Code->Loop,rec=fun st pe=>{state:=st,pending:=pe,fn,tmps:=a.tmps,params:=ps,assign,body,defers:=w.heap.size}:=⟨_,rfl⟩
 obtain⟨W1,hW1⟩: ∃W1,(w.alloc (.deferred (some []))).alloc (.loop (rec .ready none))=W1:=⟨_,rfl⟩
 have hL1:W1.heap[w.heap.size+1]? =some (.loop (rec .ready none)):=by
  rw[<-hW1];have:=World.alloc_heap_new (w.alloc (.deferred (some []))) (.loop (rec .ready none));rwa [World.size_alloc] at this
 have hK1:W1.heap[w.heap.size]? =some (.deferred (some [])):=by
  rw[<-hW1];exact(Below.heap_alloc _ _ _ (by simp)).trans (World.alloc_heap_new w _)
 have hbW:Below w.heap.size w W1:=by
  rw[<-hW1];exact bl_alloc (bl_alloc (Below.refl _ w) _) _
 have hI1:I [] W1:=hI _ _ _ h0 (Ext.of_below hbW (Nat.le_refl _))
 have hb1:Below w0.heap.size w0 W1:=bl_trans hb0 hbW
 refine⟨w.heap.size+1,[{target:=.collected w.heap.size,args:=#[]}],W1,{target:=.fn (.func gf) lb,args:=#[.func (.yield (w.heap.size+1)) #[] #[]]},W1,gf,
  #[.func (.yield (w.heap.size+1)) #[] #[]]++lb,W1, ?_, ?_, ?_, ?_,(fun h=>by cases h), ?_⟩
 ·rw[<-hW1,hrec];exact run_enterLoop_outer _ _ _ _ _
 ·simp only[resolve,hg]
  simp[go_sem]
 ·intro f' hf';trivial
 ·simp[invoke,go_sem,eg]
 ·refine(hseq (w.heap.size+1)
   (fun pre W=>I pre W/\W.heap[w.heap.size+1]? =some (.loop (rec .ready none))/\W.heap[w.heap.size]? =some (.deferred (some [])))
   (fun pre W=> ∃c,Ix c pre W/\W.heap[w.heap.size+1]? =some (.loop (rec .done (some c)))/\W.heap[w.heap.size]? =some (.deferred (some [])))
   W1 hb1
   (fun s A C hs hb=>⟨hI _ _ _ hs.1 (Ext.of_below hb (by have:=(Array.getElem?_eq_some_iff.1 hs.2.2).1;omega)),(hb.block _ (Array.getElem?_eq_some_iff.1 hs.2.1).1).trans hs.2.1,(hb.block _ (Array.getElem?_eq_some_iff.1 hs.2.2).1).trans hs.2.2⟩)
   (fun s A C hs hb=>by
    obtain⟨c,hc,hl,hk⟩:=hs
    exact⟨c,hIx _ _ _ _ hc (Ext.of_below hb (by have:=(Array.getElem?_eq_some_iff.1 hk).1;omega)),(hb.block _ (Array.getElem?_eq_some_iff.1 hl).1).trans hl,(hb.block _ (Array.getElem?_eq_some_iff.1 hk).1).trans hk⟩)
   (fun s A hs=>hM _ _ hs.1) ?_ ⟨hI1,hL1,hK1⟩).mono ?_
  ·rintro pre x W ⟨hi,hl,hk⟩ hyx
   have hlt:w.heap.size+1<W.heap.size:=(Array.getElem?_eq_some_iff.1 hl).1
   have hy:=run_yield (P:=P) (args:=encs x) hl (by rw[hrec];exact hps x)
   rw[hrec] at hy
   refine⟨fn,_,assign,body,hy,roundIn_of_wpIn hfn (hassign _ pre x W _ hi hyx ?_)⟩
   clear hy
   intro a' Wa hkfa hia hya hax
   have hl':=hkfa.same _ _ (by omega) hl rfl
   have hk':=hkfa.same _ _ (Nat.le_refl _) hk rfl
   have hlt':w.heap.size+1<Wa.heap.size:=(Array.getElem?_eq_some_iff.1 hl').1
   refine⟨_,run_beginRound hl' (by rw[hrec]), ?_⟩
   have hl2:(Wa.putObj (w.heap.size+1) (.loop {rec .ready none with state:=.busy})).heap[w.heap.size+1]? =some (.loop {rec .ready none with state:=.busy}):=World.putObj_heap_same hlt'
   have hk2:(Wa.putObj (w.heap.size+1) (.loop {rec .ready none with state:=.busy})).heap[w.heap.size]? =some (.deferred (some [])):=(World.putObj_heap_other (by omega)).trans hk'
   have hx2:Ext w.heap.size Wa (Wa.putObj (w.heap.size+1) (.loop {rec .ready none with state:=.busy})):=Ext.put _ hl' rfl (by omega)
   refine wpIn_mono (hbody _ pre x a' _ (hI _ _ _ hia hx2) (hY _ _ _ _ hya hx2) (hAx _ _ _ _ hax hx2)) ?_
   have fin: ∀(jump:Option Code) (W3:World),KeepsFrom w.heap.size (Wa.putObj (w.heap.size+1) (.loop {rec .ready none with state:=.busy})) W3->
     (Instr.endRound (w.heap.size+1) jump).run P W3=.ok (.bool jump.isNone) (W3.putObj (w.heap.size+1) (.loop (rec (if jump.isNone then .ready else .done) jump)))/\
     W3.heap[w.heap.size+1]? =some (.loop {rec .ready none with state:=.busy})/\
     (W3.putObj (w.heap.size+1) (.loop (rec (if jump.isNone then .ready else .done) jump))).heap[w.heap.size+1]? =some (.loop (rec (if jump.isNone then .ready else .done) jump))/\
     (W3.putObj (w.heap.size+1) (.loop (rec (if jump.isNone then .ready else .done) jump))).heap[w.heap.size]? =some (.deferred (some [])):=fun jump W3 hk3=>by
    have hl3:=hk3.same _ _ (by omega) hl2 rfl
    have:=run_endRound (P:=P) jump hl3
    rw[hrec] at this ⊢
    exact⟨this,by rw[hrec] at hl3;exact hl3,World.putObj_heap_same (Array.getElem?_eq_some_iff.1 hl3).1,(World.putObj_heap_other (by omega)).trans (hk3.same _ _ (Nat.le_refl _) hk2 rfl)⟩
   rintro e a3 W3 hp
   cases e with
   | normal=>
    obtain⟨hk3,hi3⟩:=hp
    obtain⟨hr,hl3,hl4,hk4⟩:=fin none W3 hk3
    exact⟨_,_,hr,.inl ⟨rfl,hI _ _ _ hi3 (Ext.put _ hl3 rfl (by omega)),hl4,hk4⟩⟩
   | ret=>
    obtain⟨hk3,hi3⟩:=hp
    obtain⟨hr,hl3,hl4,hk4⟩:=fin (some .ret) W3 hk3
    exact⟨_,_,hr,.inr ⟨rfl,.ret,hIx _ _ _ _ hi3 (Ext.put _ hl3 rfl (by omega)),hl4,hk4⟩⟩
   | exit id=>
    obtain⟨hk3,hi3⟩:=hp
    obtain⟨hr,hl3,hl4,hk4⟩:=fin (some (.exit id)) W3 hk3
    exact⟨_,_,hr,.inr ⟨rfl,.exit id,hIx _ _ _ _ hi3 (Ext.put _ hl3 rfl (by omega)),hl4,hk4⟩⟩
   | goto t=>
    obtain⟨hk3,hi3⟩:=hp
    obtain⟨hr,hl3,hl4,hk4⟩:=fin (some (.goto t)) W3 hk3
    exact⟨_,_,hr,.inr ⟨rfl,.goto t,hIx _ _ _ _ hi3 (Ext.put _ hl3 rfl (by omega)),hl4,hk4⟩⟩
   | panic ch=>exact hp.elim
   | outgrown=>exact hp.elim
  ·rintro e W2 ⟨⟨v,rfl⟩,(⟨xs,hS,hi,hl,hk⟩ | ⟨pre,c,hi,hl,hk⟩)⟩
   ·have hx:=Ext.put (B:=w.heap.size) (.loop {rec .ready none with state:=.exhausted}) hl rfl (by omega)
    exact⟨none,_,by have:=run_endLoop (P:=P) hl (by rw[hrec];simp);rw[hrec] at this hx ⊢;exact this,hdone xs _ (hE _ _ _ hS hx) (hI _ _ _ hi hx) ((World.putObj_heap_other (by omega)).trans hk)⟩
   ·have hx:=Ext.put (B:=w.heap.size) (.loop {rec .done (some c) with state:=.exhausted}) hl rfl (by omega)
    exact⟨some c,_,by have:=run_endLoop (P:=P) hl (by rw[hrec];simp);rw[hrec] at this hx ⊢;exact this,wpIn_wide.2 (hstop c pre _ (hIx _ _ _ _ hi hx) ((World.putObj_heap_other (by omega)).trans hk))⟩
end Go.Proofs.YtlhfickniegooaaDoor
