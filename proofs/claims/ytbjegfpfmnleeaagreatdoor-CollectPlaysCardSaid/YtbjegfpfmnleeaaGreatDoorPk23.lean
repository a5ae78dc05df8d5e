/-
   Written by an AI agent.
-/
import Derived.Test.YtbjegfpfmnleeaaGreatDoorPk21
import Derived.Test.YtbjegfpfmnleeaaGreatDoorPk22
namespace Go.Proofs.YtbjegfpfmnleeaaGreatDoor
open Go.RowKit Go.Maps
set_option maxRecDepth 100000
theorem Uv{kind:Int}{o:Nat}(len:Int)(h1:1<=o)(h2:o<=2147483647)(hk:kind=9\/kind=6\/kind=7)(hl:len=0):M6 kind (o:Int) 0 len len []=true:=by
 subst hl
 have e:Lg []=false:=rfl
 unfold M6
 rw[if_neg Zo,if_neg Zo,if_pos Zo,if_neg (by simp),e]
 rfl
theorem Bl8{o:Nat}(h1:1<=o)(h2:o<=2147483647):M6 5 (o:Int) 0 2 2 []=true:=by
 unfold M6
 rw[if_neg Zo,if_pos rfl]
 simp
 omega
theorem Mf(x:Fd)(hx:x.ok):K9 x.h 0=true:=by
 cases x with
 | nil=>kernel_rfl
 | num n=>kernel_rfl
 | ref k o=>
  obtain⟨h1,h2⟩:=hx
  have e9: ∀q,M6 9 (o:Int) 0 0 0 []=q->K9 (hdX 9 ⟨#[84]⟩ 0 o 0) 0=q:=fun q h=>by
   show(decide _&&M6 9 (o:Int) 0 0 0 []&&_&&_&&_)=q
   rw[h]
   cases q<;>kernel_rfl
  have e5: ∀q,M6 5 (o:Int) 0 2 2 []=q->K9 (hdX 5 ⟨#[108,105,115,116]⟩ 0 o 2) 0=q:=fun q h=>by
   show(decide _&&M6 5 (o:Int) 0 2 2 []&&_&&_&&_)=q
   rw[h]
   cases q<;>kernel_rfl
  have e6: ∀q,M6 6 (o:Int) 0 0 0 []=q->K9 (hdX 6 ⟨#[109,97,112]⟩ 0 o 0) 0=q:=fun q h=>by
   show(decide _&&M6 6 (o:Int) 0 0 0 []&&_&&_&&_)=q
   rw[h]
   cases q<;>kernel_rfl
  have e7: ∀q,M6 7 (o:Int) 0 0 0 []=q->K9 (hdX 7 ⟨#[102,117,110,99]⟩ 0 o 0) 0=q:=fun q h=>by
   show(decide _&&M6 7 (o:Int) 0 0 0 []&&_&&_&&_)=q
   rw[h]
   cases q<;>kernel_rfl
  unfold Fd.h
  split
  ·rename_i h;cases h
  ·rename_i h;cases h
  ·rename_i h;injection h with ha hb;subst hb;exact e9 _ (Uv 0 h1 h2 (.inl rfl) rfl)
  ·rename_i h;injection h with ha hb;subst hb;exact e5 _ (Bl8 h1 h2)
  ·rename_i h;injection h with ha hb;subst hb;exact e6 _ (Uv 0 h1 h2 (.inr (.inl rfl)) rfl)
  ·rename_i h;injection h with ha hb;subst hb;exact e7 _ (Uv 0 h1 h2 (.inr (.inr rfl)) rfl)
theorem R9(x:Fd):x.h.path=[]:=by
 cases x with
 | nil=>rfl
 | num n=>rfl
 | ref k o=>unfold Fd.h;split<;>rfl
theorem Ch{kind:Int}{ty:ByteArray}{n:Int}{o:Nat}{len:Int}(h1:F8 kind)(h2:F8 n)(h3:o<=2147483647)(h4:F8 len)(h5:ty.size<=140737488351232):(hdX kind ty n o len).ok where
 kind:=h1
 n:=h2
 f0:=Int.le_refl _
 f1:=by show(0:Int)<=_;omega
 obj:=by unfold F8;show-9223372036854775808<=(o:Int)/\(o:Int)<=_;omega
 frm:=by unfold F8;show-9223372036854775808<=(0:Int)/\(0:Int)<=_;omega
 len:=h4
 cap:=h4
 type:=h5
 s:=by show(0:Nat)<=_;omega
 path:=by show(0:Nat)<=_;omega
 each:=fun j x h=>by simp[hdX] at h
theorem Em(n:Int)(h: -1000<=n/\n<=1000):F8 n:=by unfold F8;omega
theorem Uw(x:Fd)(hx:x.ok):x.h.ok:=by
 cases x with
 | nil=>exact Ch (Em _ Zo) (Em _ Zo) Zo (Em _ Zo) (by show(0:Nat)<=_;omega)
 | num n=>exact Ch (Em _ Zo) hx Zo (Em _ Zo) (by show(3:Nat)<=_;omega)
 | ref k o=>
  have h2:=hx.2
  unfold Fd.h
  split
  ·rename_i h;cases h
  ·rename_i h;cases h
  ·rename_i h;injection h with ha hb;subst hb;exact Ch (Em _ Zo) (Em _ Zo) h2 (Em _ Zo) (by show(1:Nat)<=_;omega)
  ·rename_i h;injection h with ha hb;subst hb;exact Ch (Em _ Zo) (Em _ Zo) h2 (Em _ Zo) (by show(4:Nat)<=_;omega)
  ·rename_i h;injection h with ha hb;subst hb;exact Ch (Em _ Zo) (Em _ Zo) h2 (Em _ Zo) (by show(3:Nat)<=_;omega)
  ·rename_i h;injection h with ha hb;subst hb;exact Ch (Em _ Zo) (Em _ Zo) h2 (Em _ Zo) (by show(4:Nat)<=_;omega)
theorem Jg(x:Fd)(hx:x.ok):x.dt.ok:=⟨Uw x hx,trivial,Nat.zero_le _⟩
theorem Gm(x:Fd)(w:World)(S:Nat->Prop):x.dt.at w S dm0:=⟨.inl (R9 x),by show x.h.path.length<=0;rw[R9];exact Nat.zero_le _,capOk.nil,.inl rfl,Nat.zero_le _,capOk.nil⟩
theorem N2(x:Fd)(hx:x.ok):rB x.dt=true:=by
 show(I8 x.h .nil 100).1=true
 unfold I8
 rw[if_neg Zd,show K9 x.h (Fo.nil).len=true from Mf x hx]
 rfl
theorem Ci: ∀xs:List Fd,(∀x,x∈xs->x.ok)->(xsF xs).ok
 | [],_=>trivial
 | x::r,h=>⟨Uw x (h x (by simp)),trivial,Ci r fun y hy=>h y (List.mem_cons_of_mem _ hy),Nat.zero_le _⟩
theorem Bl9(a b:Fd)(ha:a.ok)(hb:b.ok):(pr a b).ok:=⟨Ch (Em _ Zo) (Em _ Zo) Zo (Em _ Zo) (by show(1:Nat)<=_;omega),Ci _ (by simp[ha,hb]),by show(2:Nat)<=_;omega⟩
theorem Nt(a b:Fd)(ha:a.ok)(hb:b.ok):rB (pr a b)=true:=by
 have e:K9 (hdX 8 ⟨#[84]⟩ 0 0 0) (xsF [a,b]).len=true:=by
  show K9 (hdX 8 ⟨#[84]⟩ 0 0 0) 2=true
  kernel_rfl
 have h1:=Mf a ha
 have h2:=Mf b hb
 show(I8 (hdX 8 ⟨#[84]⟩ 0 0 0) (xsF [a,b]) 100).1=true
 unfold I8
 rw[if_neg Zd,e]
 simp[xsF,I0,h1,h2,Fo.len]
theorem Aw2{w:World}{S:Nat->Prop}{q:Nat}{cs:Array Value}(hB:Blk w q C7 cs): ∀(xs:List Fd) (o:Nat),(∀j x,xs[j]? =some x->(cs.toList.drop (o+j*11)).take 11=(x.dt.cs dm0).toList)->FoAt w S q o (xsF xs)
 | [],_,_=>trivial
 | x::r,o,h=>by
  have h0:=h 0 x rfl
  rw[Nat.zero_mul,Nat.add_zero] at h0
  have hr:=Q0 hB o 11 h0
  refine⟨⟨none,0,none,0,fun j v hj=>hr j v (by rw[Array.getElem?_toList];exact hj),.inl (R9 x),by rw[R9];exact Nat.zero_le _,capOk.nil,Nat.zero_le _,capOk.nil,.inl rfl⟩,Aw2 hB r (o+11) fun j y hj=> ?_⟩
  have:=h (j+1) y (by simpa using hj)
  rwa [show o+(j+1)*11=o+11+j*11 by omega] at this
theorem RowX.sl{w:World}{S:Nat->Prop}{ia:Option Addr}{xs:List Fd}(h:RowX w S ia xs):SlAt w S ia (xsF xs):=by
 rcases h with rfl | ⟨q,cs,h1,h2,h3,_,h4⟩
 ·exact .inl rfl
 ·exact .inr ⟨q,0,h1,h2,Aw2 h3 xs 0 fun j x hj=>by rw[Nat.zero_add];exact h4 j x hj⟩
theorem Bm0{w:World}{S:Nat->Prop}{ia:Option Addr}{ic:Nat}{a b:Fd}(h:RowX w S ia [a,b])(hc:2<=ic)(hm:capOk ia ic):(pr a b).at w S ⟨none,0,ia,ic⟩:=⟨.inl rfl,Nat.zero_le _,capOk.nil,RowX.sl h,hc,hm⟩
theorem Jh{w:World}{g o:Nat}{t:TypeId}{cs:Array Value}{ty nm:ByteArray}(hB:Blk w g t cs)(hc:cs[o+1]? =some (.string ty))(pd:Option Addr)(pc:Nat):
  Calls Tryz.prog 101 #[.pointer (some ⟨g,o,none⟩),.slice pd 0 pc,.string nm] w fun e w'=>e=.returned (.pointer (if ty=nm then some ⟨g,o,none⟩ else none))/\w'=w:=by
 refine B6 (vs:=[.pointer (some ⟨g,o,none⟩),.slice pd 0 pc,.string nm]) 51 Tryz.func101 Bi2 Zk (by simp) fun a0 h0=> ?_
 unfold At8
 refine Zs (Dx0 h0 fun a1 h1=> ?_)
 refine wp_seq (Zs (Dx1 (pn:=0) h1 rfl fun a2 h2=> ?_))
 refine wp_block ?_
 refine wp_loop (fun a' wr=>Sl 51 a' [(11,ii (0:Int)),(10,ii (0:Int)),(2,.string nm),(0,.pointer (some ⟨g,o,none⟩))]/\wr=w) (fun a' _=>0) ⟨h2.to ⟨rfl,rfl,rfl,rfl,trivial⟩,rfl⟩ ?_
 rintro a3 w3 ⟨h3,rfl⟩
 unfold Es6
 refine Zs (Dx2 (i:=0) (pn:=0) (b12:=false) h3 rfl rfl rfl fun a4 h4=> ?_)
 refine wp_seq (C9 (h4.look 12 rfl) ?_)
 refine A8 (A8 (B8 ?_))
 by_cases he:ty=nm
 ·refine wp_seq (Zs (Cj3 (ty:=ty) (b49:=false) h4 rfl rfl (A9 hB Tryz.underlying9 rfl hc) (decide_eq_false (by simpa using he)) fun a5 h5=>B9 (h5.look 49 rfl) ?_))
  refine Zs (Cj4 h5 rfl fun a6 h6=>wp_ret ?_)
  exact G7 rfl h6 rfl ⟨by rw[if_pos he],rfl⟩
 ·refine wp_seq (Zs (Cj3 (ty:=ty) (b49:=true) h4 rfl rfl (A9 hB Tryz.underlying9 rfl hc) (decide_eq_true he) fun a5 h5=>wp_cond_true (h5.look 49 rfl) ?_))
  refine Zs (Dx3 h5 fun a6 h6=>wp_ret ?_)
  exact D2 (G7 rfl h6 rfl ⟨by rw[if_neg he],rfl⟩)
def ifo(pt:Nat->Nat)(T:Tm)(i:Nat):Value:=match I6 T i with
 | some t=>t.if (pt i)
 | none=>.nilIface
theorem HSx.lookup{B:Nat}{w:World}{gh:Nat}{O:Nat->Prop}{last:Nat}{T:Tm}{bm:Nat}{pt:Nat->Nat}{own:Nat->Nat->Prop}(h:HSx B w gh O last T bm pt own){i:Nat}(hi:i<=9223372036854775807):
  Lkp Tryz.prog 79 (.map (some bm)) (ii (i:Int)) false (ifo pt T i) w:=by
 have:=h.hp.bm.look (z:=.nilIface) Tryz.underlying79 (fun _=>Tryz.zeroValue81 _) (k:=(i:Int)) Zo
 rw[Un] at this
 have e:((I6 T i).map fun th=>th.if (pt i)).getD .nilIface=ifo pt T i:=by unfold ifo;cases I6 T i<;>rfl
 rw[e] at this
 exact this
def Cp5:Option Th->Bool
 | some (.obj ..)=>true
 | _=>false
def Cp6:Option Th->Bool
 | some (.arr ..)=>true
 | _=>false
def Cp7:Option Th->Bool
 | some (.tab ..)=>true
 | _=>false
def Mg:Option Th->Bool
 | some (.box ..)=>true
 | _=>false
def Es8:Option Th->Bool
 | some (.fn ..)=>true
 | _=>false
def pIf(b:Bool)(p:Nat):Option Addr:=if b then some ⟨p,0,none⟩ else none
theorem Aw3(pt:Nat->Nat)(T:Tm)(i:Nat)(w:World):(Instr.typeAssert (ifo pt T i) 81 126 true).run Tryz.prog w=.ok (.tuple #[.pointer (pIf (Cp5 (I6 T i)) (pt i)),.bool (Cp5 (I6 T i))]) w:=by
 unfold ifo;generalize pt i=p
 cases I6 T i with
 | none=>kernel_rfl
 | some t=>cases t<;>kernel_rfl
theorem Fq(pt:Nat->Nat)(T:Tm)(i:Nat)(w:World):(Instr.typeAssert (ifo pt T i) 81 146 true).run Tryz.prog w=.ok (.tuple #[.pointer (pIf (Cp6 (I6 T i)) (pt i)),.bool (Cp6 (I6 T i))]) w:=by
 unfold ifo;generalize pt i=p
 cases I6 T i with
 | none=>kernel_rfl
 | some t=>cases t<;>kernel_rfl
theorem Ji(pt:Nat->Nat)(T:Tm)(i:Nat)(w:World):(Instr.typeAssert (ifo pt T i) 81 115 true).run Tryz.prog w=.ok (.tuple #[.pointer (pIf (Cp7 (I6 T i)) (pt i)),.bool (Cp7 (I6 T i))]) w:=by
 unfold ifo;generalize pt i=p
 cases I6 T i with
 | none=>kernel_rfl
 | some t=>cases t<;>kernel_rfl
theorem Aw4(pt:Nat->Nat)(T:Tm)(i:Nat)(w:World):(Instr.typeAssert (ifo pt T i) 81 121 true).run Tryz.prog w=.ok (.tuple #[.pointer (pIf (Mg (I6 T i)) (pt i)),.bool (Mg (I6 T i))]) w:=by
 unfold ifo;generalize pt i=p
 cases I6 T i with
 | none=>kernel_rfl
 | some t=>cases t<;>kernel_rfl
theorem Bm1(pt:Nat->Nat)(T:Tm)(i:Nat)(w:World):(Instr.typeAssert (ifo pt T i) 81 151 true).run Tryz.prog w=.ok (.tuple #[.pointer (pIf (Es8 (I6 T i)) (pt i)),.bool (Es8 (I6 T i))]) w:=by
 unfold ifo;generalize pt i=p
 cases I6 T i with
 | none=>kernel_rfl
 | some t=>cases t<;>kernel_rfl
def Bb(k:Nat):Option Th->Bool
 | some (.obj ..)=>decide (k=1)
 | some (.arr ..)=>decide (k=2)
 | some (.tab ..)=>decide (k=3)
 | some (.fn ..)=>decide (¬k=1/\¬k=2/\¬k=3)
 | _=>false
def P3(T:Tm):Fd->Bool
 | .ref k o=>Bb k (I6 T o)
 | _=>true
theorem V2(k o:Nat):(Fd.ref k o).h.kind=if k=1 then 9 else if k=2 then 5 else if k=3 then 6 else 7:=by
 unfold Fd.h
 split
 ·rename_i h;cases h
 ·rename_i h;cases h
 ·rename_i h;injection h with ha hb;subst ha;rfl
 ·rename_i h;injection h with ha hb;subst ha;rfl
 ·rename_i h;injection h with ha hb;subst ha;rfl
 ·rename_i n1 n2 n3 h
  injection h with ha hb
  subst ha
  rw[if_neg (fun e=>n1 e),if_neg (fun e=>n2 e),if_neg (fun e=>n3 e)]
  rfl
theorem Aw5(k o:Nat):(Fd.ref k o).h.obj=(o:Int):=by unfold Fd.h;split<;>(rename_i h;first | (cases h;done) | (injection h with ha hb;subst hb;rfl))
theorem Ai1(g o:Nat)(w:World):(binOp .neq 125 (.pointer (some ⟨g,o,none⟩)) (.pointer none)).run Tryz.prog w=.ok (.bool true) w:=by kernel_rfl
variable {B:Nat} {w:World} {gh:Nat} {O:Nat->Prop} {last:Nat} {T:Tm} {bm:Nat} {pt:Nat->Nat} {own:Nat->Nat->Prop}
theorem HSx.old{w':World}(h:HSx B w gh O last T bm pt own)(hb:Below w.heap.size w w'):HSx B w' gh O last T bm pt own:=h.keep hb.size fun b hO=>hb.block b (h.lim b hO).2
set_option maxHeartbeats 1000000 in
theorem Ux(h:HSx B w gh O last T bm pt own){x:Fd}(hx:x.ok):Calls Tryz.prog 93 #[pT gh,.agg (x.dt.cs dm0)] w fun e w'=>e=.returned (.bool (P3 T x))/\Below w.heap.size w w':=by
 refine B6 (vs:=[pT gh,.agg (x.dt.cs dm0)]) 72 Tryz.func93 Bi3 Zk (by simp) fun a0 h0=> ?_
 unfold At9
 refine Zs (Dx4 h0 rfl fun a1 h1=> ?_)
 have hA:=Blk.new w C7 (x.dt.cs dm0)
 have hb1:Below w.heap.size w (w.alloc (.cells (x.dt.cs dm0) C7)):=B2 (Below.refl _ _) _
 change Code.wp _ _ _ a1 (w.alloc (.cells (x.dt.cs dm0) C7))
 generalize w.alloc (.cells (x.dt.cs dm0) C7)=w1 at hA hb1 ⊢
 have h1x:=h.old hb1
 have hob:Lds Tryz.prog 3 (.pointer (some ⟨w.heap.size,5+0,none⟩)) (ii x.h.obj) w1:=A9 hA Tryz.underlying3 rfl rfl
 have hkd: ∀u,Below w1.heap.size w1 u->Lds Tryz.prog 3 (pT w.heap.size) (ii x.h.kind) u:=fun u hu=>A9 (hA.below hu hA.lt) Tryz.underlying3 rfl rfl
 by_cases ho:x.h.obj=0
 ·refine wp_seq (Zs (Cj5 (b12:=true) h1 rfl hob (decide_eq_true ho) fun a2 h2=>wp_cond_true (h2.look 12 rfl) ?_))
  refine Zs (Dx5 h2 fun a3 h3=>wp_ret ?_)
  have e:P3 T x=true:=by
   cases x with
   | nil=>rfl
   | num n=>rfl
   | ref k o=>rw[Aw5] at ho;have:=hx.1;omega
  exact D2 (G7 rfl h3 rfl ⟨by rw[e],hb1⟩)
 ·obtain⟨k,o,rfl⟩: ∃k o,x=.ref k o:=by
   cases x with
   | nil=>exact absurd rfl ho
   | num n=>exact absurd rfl ho
   | ref k o=>exact⟨k,o,rfl⟩
  obtain⟨hx1,hx2⟩:=hx
  refine wp_seq (Zs (Cj5 (b12:=false) h1 rfl hob (decide_eq_false ho) fun a2 h2=>B9 (h2.look 12 rfl) ?_))
  rw[Aw5] at hob
  refine wp_seq (Zs (Dx6 h2 rfl rfl h1x.hp.lm hob (h1x.lookup Zo) fun a3 mm h3=> ?_))
  have hbd:Below w1.heap.size w1 (w1.drewN mm):=B3 (Below.refl _ _) mm
  change Code.wp _ _ _ a3 (w1.drewN mm)
  generalize w1.drewN mm=w2 at hbd ⊢
  have h2x:=h1x.old hbd
  have hA2:=hA.below hbd hA.lt
  have hb2:=A7 hb1 hbd
  have hkd:=hkd w2 hbd
  rw[V2] at hkd
  show Code.wp _ _ _ a3 w2
  refine wp_block ?_
  refine Zs (Dx7 h3 rfl (Aw3 pt T o) fun a4 h4=> ?_)
  rw[show P3 T (.ref k o)=Bb k (I6 T o) from rfl]
  cases hg:I6 T o with
  | none=>
   rw[hg] at h4
   refine wp_cond_false (h4.look 22 rfl) (Zs (Tx h4 rfl (Fq pt T o) fun a5 h5=> ?_))
   rw[hg] at h5
   refine wp_cond_false (h5.look 40 rfl) (Zs (Nn h5 rfl (Ji pt T o) fun a6 h6=> ?_))
   rw[hg] at h6
   refine wp_cond_false (h6.look 61 rfl) (Zs (Ty h6 rfl (Bm1 pt T o) fun a7 h7=> ?_))
   rw[hg] at h7
   refine B9 (h7.look 67 rfl) ?_
   refine B1 ?_
   refine Zs (Au0 h7 fun a8 h8=>wp_ret ?_)
   exact G7 rfl h8 rfl ⟨rfl,hb2⟩
  | some t=>
   have hm:=L9 hg
   obtain⟨hth,_⟩:=h2x.th o t hm
   rw[hg] at h4
   cases t with
   | obj a b=>
    refine wp_cond_true (h4.look 22 rfl) ?_
    refine Zs (Dx8 h4 rfl fun a5 h5=> ?_)
    obtain⟨ia,ic,q1,_⟩:=hth
    by_cases hk:k=1
    ·subst hk
     have hp:Lds Tryz.prog 24 (.pointer (some ⟨w.heap.size,5+4,none⟩)) (.slice none 0 0) w2:=A9 hA2 Tryz.underlying24 rfl rfl
     have ht:Lds Tryz.prog 9 (.pointer (some ⟨w.heap.size,1,none⟩)) (.string ⟨#[84]⟩) w2:=A9 hA2 Tryz.underlying9 rfl rfl
     refine Zs (Bi4 (p36:=some ⟨pt o,0,none⟩) (b37:=true) h5 rfl rfl hkd rfl hp ht (fun mm=>(Jh (w:=w2.drewN mm) (ty:=⟨#[84]⟩) (nm:=⟨#[84]⟩) (q1.below (B3 (Below.refl _ _) mm) q1.lt) rfl none 0).mono fun e w' hh=>⟨by rw[hh.1,if_pos rfl],mm,hh.2⟩) (Ai1 _ _) fun a6 mm h6=>wp_ret ?_)
     repeat (first | with_reducible refine D2 ?_ | with_reducible refine F1 ?_)
     exact G7 rfl h6 rfl ⟨rfl,B3 hb2 mm⟩
    ·rw[if_neg hk] at hkd
     refine Zs (Bi5 h5 rfl hkd (decide_eq_false (by split<;>(try split)<;>omega)) fun a6 mm h6=>wp_ret ?_)
     repeat (first | with_reducible refine D2 ?_ | with_reducible refine F1 ?_)
     exact G7 rfl h6 rfl ⟨by simp[Bb,hk],B3 hb2 mm⟩
   | arr a b=>
    refine wp_cond_false (h4.look 22 rfl) (Zs (Tx h4 rfl (Fq pt T o) fun a5 h5=> ?_))
    rw[hg] at h5
    refine wp_cond_true (h5.look 40 rfl) ?_
    refine Zs (Dx9 h5 rfl fun a6 h6=> ?_)
    obtain⟨ia,ic,q1,_⟩:=hth
    by_cases hk:k=2
    ·subst hk
     have hf:Lds Tryz.prog 3 (.pointer (some ⟨w.heap.size,5+1,none⟩)) (ii 0) w2:=A9 hA2 Tryz.underlying3 rfl rfl
     have hc:Lds Tryz.prog 3 (.pointer (some ⟨w.heap.size,5+3,none⟩)) (ii 2) w2:=A9 hA2 Tryz.underlying3 rfl rfl
     refine Zs (Bi6 (an:=2) (b58:=true) h6 rfl rfl hkd rfl hf hc Zo (A9 q1 Tryz.underlying23 rfl rfl) rfl fun a7 mm h7=>wp_ret ?_)
     repeat (first | with_reducible refine D2 ?_ | with_reducible refine F1 ?_)
     exact G7 rfl h7 rfl ⟨rfl,B3 hb2 mm⟩
    ·refine Zs (Bi7 h6 rfl hkd (decide_eq_false (by split<;>(try split)<;>(try split)<;>omega)) fun a7 mm h7=>wp_ret ?_)
     repeat (first | with_reducible refine D2 ?_ | with_reducible refine F1 ?_)
     exact G7 rfl h7 rfl ⟨by simp[Bb,hk],B3 hb2 mm⟩
   | tab E=>
    refine wp_cond_false (h4.look 22 rfl) (Zs (Tx h4 rfl (Fq pt T o) fun a5 h5=> ?_))
    rw[hg] at h5
    refine wp_cond_false (h5.look 40 rfl) (Zs (Nn h5 rfl (Ji pt T o) fun a6 h6=> ?_))
    rw[hg] at h6
    refine wp_cond_true (h6.look 61 rfl) ?_
    refine Zs (Cj6 h6 rfl fun a7 h7=> ?_)
    refine Zs (Cj7 (b65:=decide (k=3)) h7 rfl hkd ?_ fun a8 h8=>wp_ret ?_)
    ·rw[decide_eq_decide]
     split
     ·omega
     ·split
      ·omega
      ·split<;>omega
    ·repeat (first | with_reducible refine D2 ?_ | with_reducible refine F1 ?_)
     exact G7 rfl h8 rfl ⟨rfl,hb2⟩
   | box a=>
    refine wp_cond_false (h4.look 22 rfl) (Zs (Tx h4 rfl (Fq pt T o) fun a5 h5=> ?_))
    rw[hg] at h5
    refine wp_cond_false (h5.look 40 rfl) (Zs (Nn h5 rfl (Ji pt T o) fun a6 h6=> ?_))
    rw[hg] at h6
    refine wp_cond_false (h6.look 61 rfl) (Zs (Ty h6 rfl (Bm1 pt T o) fun a7 h7=> ?_))
    rw[hg] at h7
    refine B9 (h7.look 67 rfl) ?_
    refine B1 ?_
    refine Zs (Au0 h7 fun a8 h8=>wp_ret ?_)
    exact G7 rfl h8 rfl ⟨rfl,hb2⟩
   | fn c bx b=>
    refine wp_cond_false (h4.look 22 rfl) (Zs (Tx h4 rfl (Fq pt T o) fun a5 h5=> ?_))
    rw[hg] at h5
    refine wp_cond_false (h5.look 40 rfl) (Zs (Nn h5 rfl (Ji pt T o) fun a6 h6=> ?_))
    rw[hg] at h6
    refine wp_cond_false (h6.look 61 rfl) (Zs (Ty h6 rfl (Bm1 pt T o) fun a7 h7=> ?_))
    rw[hg] at h7
    refine wp_cond_true (h7.look 67 rfl) ?_
    refine Zs (Cj8 h7 rfl fun a8 h8=> ?_)
    refine Zs (Cj9 (b71:=decide (¬k=1/\¬k=2/\¬k=3)) h8 rfl hkd ?_ fun a9 h9=>wp_ret ?_)
    ·rw[decide_eq_decide]
     split
     ·omega
     ·split
      ·omega
      ·split<;>omega
    ·repeat (first | with_reducible refine D2 ?_ | with_reducible refine F1 ?_)
     exact G7 rfl h9 rfl ⟨rfl,hb2⟩
theorem Gn(h:HSx B w gh O last T bm pt own)(hown:OwnAt w){x:Fd}(hx:x.ok)(kd:Int):Calls Tryz.prog 64 #[pT gh,.agg (x.dt.cs dm0),ii kd] w fun e w'=>e=.returned (.bool (decide (x.h.kind=kd)&&P3 T x))/\Below w.heap.size w w':=by
 refine B6 (vs:=[pT gh,.agg (x.dt.cs dm0),ii kd]) 20 Tryz.func64 Bi8 Zk (by simp) fun a0 h0=> ?_
 unfold Au1
 refine Zs (Dy0 h0 rfl fun a1 h1=> ?_)
 have hA:=Blk.new w C7 (x.dt.cs dm0)
 have hb1:Below w.heap.size w (w.alloc (.cells (x.dt.cs dm0) C7)):=B2 (Below.refl _ _) _
 change Code.wp _ _ _ a1 (w.alloc (.cells (x.dt.cs dm0) C7))
 generalize w.alloc (.cells (x.dt.cs dm0) C7)=w1 at hA hb1 ⊢
 have hld: ∀u,Below w1.heap.size w1 u->Lds Tryz.prog C7 (pT w.heap.size) (.agg (x.dt.cs dm0)) u:=fun u hu=>C6 (hA.below hu hA.lt) rfl
 have hkd: ∀u,Below w1.heap.size w1 u->Lds Tryz.prog 3 (pT w.heap.size) (ii x.h.kind) u:=fun u hu=>A9 (hA.below hu hA.lt) Tryz.underlying3 rfl rfl
 have hr:=X6 (Jg x hx) (Gm x w1 fun _=>False) (hown.old hb1)
 rw[N2 x hx] at hr
 by_cases hk:x.h.kind=kd
 ·refine Zs (Bi9 (C0:=fun u=>Below w1.heap.size w1 u) (C1:=fun u=>Below w1.heap.size w1 u) (b18:=P3 T x) h1 rfl rfl rfl (hld w1 (Below.refl _ _)) hr (fun u hu=>hkd u hu) (decide_eq_true hk) (fun u hu=>hld u hu) (fun u hu=>(Ux ((h.old hb1).old hu) hx).mono fun e w' hh=>⟨hh.1,A7 hu hh.2⟩) fun a2 u v hu hv h2=>wp_ret ?_)
  exact G7 rfl h2 rfl ⟨by simp[hk],A7 hb1 hv⟩
 ·refine Zs (Bj0 (C0:=fun u=>Below w1.heap.size w1 u) h1 rfl rfl (hld w1 (Below.refl _ _)) hr (fun u hu=>hkd u hu) (decide_eq_false hk) fun a2 u hu h2=>wp_ret ?_)
  exact G7 rfl h2 rfl ⟨by simp[hk],A7 hb1 hu⟩
variable {B:Nat} {w:World} {gh:Nat} {O:Nat->Prop} {last:Nat} {T:Tm} {bm:Nat} {pt:Nat->Nat} {own:Nat->Nat->Prop}
structure NewT (B:Nat) (w:World) (O N:Nat->Prop) (p:Nat) (t:Th):Prop where
 lim: ∀b,N b->B<=b/\b<w.heap.size/\¬O b
 mem:N p
 th:ThAt w N p t
theorem Bm2(pt:Nat->Nat)(T:Tm):(tIM pt T).length=T.length:=by simp[tIM]
theorem Aw6(h:HSx B w gh O last T bm pt own)(hl:last<1000){N:Nat->Prop}{p:Nat}{t:Th}(hN:NewT B w O N p t):Calls Tryz.prog 92 #[pT gh,t.if p] w fun e w'=>e=.returned (.tuple #[ii ((last+1:Nat):Int),.nilIface])/\(HS B w' gh (fun b=>O b\/N b) (last+1) (T++[(last+1,t)])/\Moved (fun b=>b=gh\/b=bm) w w'):=
 (Tw h.hp (by unfold maxLen;omega) Zo (t.if p)).mono fun e w' ⟨h1,h2,h3⟩=>⟨h1,h.more hl h2 h3 hN.lim hN.mem hN.th,h3⟩
def Cp8(d:Dt)(n:Int):Dt:=Dt.mk {d.h with obj:=n} d.k
theorem Ew0(d:Dt)(m:Dm)(n:Int):(d.cs m).setIfInBounds 5 (ii n)=(Cp8 d n).cs m:=by kernel_rfl
theorem NewT.keep{w':World}{N:Nat->Prop}{p:Nat}{t:Th}(h:NewT B w O N p t)(hb:Below w.heap.size w w'):NewT B w' O N p t:=
 ⟨fun b hb'=>⟨(h.lim b hb').1,Nat.lt_of_lt_of_le (h.lim b hb').2.1 hb.size,(h.lim b hb').2.2⟩,h.mem,h.th.keep h.mem hb.size (fun b _ hl=>hb.block b hl) (fun _ hb _=>hb)⟩
theorem Gp(h:HSx B w gh O last T bm pt own)(hl:last<1000){N:Nat->Prop}{p:Nat}{t:Th}(hN:NewT B w O N p t)(d:Dt)(m:Dm):Calls Tryz.prog 88 #[pT gh,t.if p,.agg (d.cs m)] w fun e w'=>e=.returned (.tuple #[.agg ((Cp8 d ((last+1:Nat):Int)).cs m),.nilIface])/\
   (HS B w' gh (fun b=>O b\/N b) (last+1) (T++[(last+1,t)])/\Moved O w w'):=by
 refine B6 (vs:=[pT gh,t.if p,.agg (d.cs m)]) 24 Tryz.func88 Bh9 Zk (by simp) fun a0 h0=> ?_
 unfold At4
 refine Zs (Dv2 h0 rfl fun a1 h1=> ?_)
 have hA:=(Blk.new w C7 (d.cs m)).alloc (.cells zA C7)
 have hZ:=Blk.new (w.alloc (.cells (d.cs m) C7)) C7 zA
 have hb1:Below w.heap.size w ((w.alloc (.cells (d.cs m) C7)).alloc (.cells zA C7)):=B2 (B2 (Below.refl _ _) _) _
 have e1:(w.alloc (.cells (d.cs m) C7)).heap.size=w.heap.size+1:=by simp
 rw[e1] at h1 hZ
 change Code.wp _ _ _ a1 ((w.alloc (.cells (d.cs m) C7)).alloc (.cells zA C7))
 generalize (w.alloc (.cells (d.cs m) C7)).alloc (.cells zA C7)=w1 at hA hZ hb1 ⊢
 have hx:=h.old hb1
 have hzA:=hA.lt
 have hzZ:=hZ.lt
 have hgh:=h.hp.gh.lt
 have hbm:=h.hp.bm.lt
 refine Zs (Dv3 (n:=last+1) (z:=.nilIface) (C0:=fun u=>HS B u gh (fun b=>O b\/N b) (last+1) (T++[(last+1,t)])/\Moved (fun b=>b=gh\/b=bm) w1 u) h1 rfl rfl (Aw6 hx hl (hN.keep hb1)) fun a2 u hu h2=> ?_)
 obtain⟨hS,hM⟩:=hu
 have hz:=hM.size
 have hA2:Blk u w.heap.size C7 (d.cs m):=(hM.block _ hzA Zo).trans hA
 have hZ2:Blk u (w.heap.size+1) C7 zA:=(hM.block _ hzZ Zo).trans hZ
 refine wp_seq (Zs (Ch7 h2 rfl fun a3 h3=>B9 (h3.look 17 rfl) ?_))
 refine Zs (Dv4 h3 rfl rfl (F2 hA2 Zk (by show 5<11;omega) rfl) fun a4 h4=> ?_)
 have hA4:=hA2.set_ 5 (ii ((last+1:Nat):Int))
 rw[Ew0] at hA4
 have hZ4:=hZ2.far (p:=⟨w.heap.size,5,none⟩) (by simp) (ii ((last+1:Nat):Int))
 have hlimO:=fun b hb=>(h.lim b hb).2
 have hlimN:=fun b hb=>(hN.lim b hb).2.1
 have hS4:HS B (u.setCells w.heap.size (5+0) [ii ((last+1:Nat):Int)]) gh (fun b=>O b\/N b) (last+1) (T++[(last+1,t)]):=hS.keep (by rw[B7];exact Nat.le_refl _) fun b hb=>B5 _ _ _ (by rcases hb with hb | hb;have:=hlimO b hb;omega;have:=hlimN b hb;omega)
 have hM1:Moved O w u:=(Moved.of_below hb1).trans (hM.more fun b hb=>.inl (by rcases hb with rfl | rfl;exact h.base.1;exact h.base.2))
 have hM4:Moved O w (u.setCells w.heap.size (5+0) [ii ((last+1:Nat):Int)]):=hM1.set (.inr (Nat.le_refl _)) _ _
 change Code.wp _ _ _ a4 (u.setCells w.heap.size (5+0) [ii ((last+1:Nat):Int)])
 change Blk (u.setCells w.heap.size (5+0) [ii ((last+1:Nat):Int)]) _ _ _ at hA4
 change Blk (u.setCells w.heap.size (5+0) [ii ((last+1:Nat):Int)]) _ _ _ at hZ4
 generalize u.setCells w.heap.size (5+0) [ii ((last+1:Nat):Int)]=w4 at hA4 hZ4 hS4 hM4 ⊢
 refine Zs (Dv5 (d:=Cp8 d ((last+1:Nat):Int)) (m:=m) h4 rfl rfl (C6 hA4 rfl) (D1 hZ4 (by show 0+11<=11;omega)) fun a5 h5=>wp_ret ?_)
 have hZ5:=K1 (Cp8 d ((last+1:Nat):Int)) m hZ4
 have hZ6:Lds Tryz.prog C7 (.pointer (some ⟨w.heap.size+1,0,none⟩)) (.agg ((Cp8 d ((last+1:Nat):Int)).cs m)) _:=C6 hZ5 rfl
 refine Kd rfl h5 rfl rfl hZ6 ⟨rfl,hS4.keep (by rw[B7];exact Nat.le_refl _) fun b hb=>B5 _ _ _ (by rcases hb with hb | hb;have:=hlimO b hb;omega;have:=hlimN b hb;omega),hM4.set (.inr Zo) _ _⟩
theorem HQ.made{w1 w':World}{N:Nat->Prop}{T':Tm}{n:Nat}(hb:Below w.heap.size w w1)(h:HS B w' gh (fun b=>O b\/N b) n T')(hM:Moved O w1 w')(hN: ∀b,N b->w.heap.size<=b):HQ B w w' gh O n T':=
 ⟨_,h,(Moved.of_below hb).trans (hM.more fun _ h=>.inl h),fun _ h=>.inl h,fun b hb=>hb.imp_right (hN b)⟩
theorem HQ.fin{u v:World}{n:Nat}{T':Tm}(hbu:Below w.heap.size w u)(h:HQ B u v gh O n T'){g:Nat}(hg:w.heap.size<=g)(hg2:g<u.heap.size)(hl: ∀b,O b->b<w.heap.size)(o:Nat)(vs:List Value):HQ B w (v.setCells g o vs) gh O n T':=by
 obtain⟨O',r1,r2,r3,r4⟩:=h
 have hz:=hbu.size
 exact⟨O',r1.keep (by rw[B7];exact Nat.le_refl _) fun x hx=>B5 _ _ _ fun e=>by
  subst e
  rcases r4 _ hx with q | q
  ·have:=hl _ q
   omega
  ·omega,((Moved.of_below hbu).trans (r2.more fun _ h=>.inl h)).set (.inr hg) _ _,r3,fun b hb=>(r4 b hb).imp_right fun q=>by omega⟩
def MkR(B:Nat)(w:World)(gh:Nat)(O:Nat->Prop)(last:Nat)(T:Tm)(x:Fd)(t:Th)(e:Ending)(w':World):Prop:=e=.returned (.tuple #[.agg (x.dt.cs dm0),.nilIface])/\HQ B w w' gh O (last+1) (T++[(last+1,t)])
set_option maxHeartbeats 1000000 in
theorem Mh(h:HSx B w gh O last T bm pt own)(hown:OwnAt w)(hl:last<1000){a b:Fd}(ha:a.ok)(hb:b.ok){S:Nat->Prop}{ia:Option Addr}{ic:Nat}(hr:RowX w S ia [a,b])(hic:2<=ic)(hcap:capOk ia ic)(hB:B<=w.heap.size):
  Calls Tryz.prog 59 #[pT gh,.agg ((pr a b).cs ⟨none,0,ia,ic⟩)] w (MkR B w gh O last T (.ref 1 (last+1)) (.obj a b)):=by
 refine B6 (vs:=[pT gh,.agg ((pr a b).cs ⟨none,0,ia,ic⟩)]) 28 Tryz.func59 Bj7 Zk (by simp) fun a0 h0=> ?_
 unfold Au7
 obtain⟨m,hm⟩: ∃m:Dm,m=⟨none,0,ia,ic⟩:=⟨_,rfl⟩
 rw[<-hm] at h0
 refine Zs (Dz6 h0 rfl fun a1 h1=> ?_)
 have hA:=(Blk.new w C7 ((pr a b).cs m)).alloc (.cells zA C7)
 have hZ:=Blk.new (w.alloc (.cells ((pr a b).cs m) C7)) C7 zA
 have hb1:Below w.heap.size w ((w.alloc (.cells ((pr a b).cs m) C7)).alloc (.cells zA C7)):=B2 (B2 (Below.refl _ _) _) _
 have e1:(w.alloc (.cells ((pr a b).cs m) C7)).heap.size=w.heap.size+1:=by simp
 rw[e1] at h1 hZ
 change Code.wp _ _ _ a1 ((w.alloc (.cells ((pr a b).cs m) C7)).alloc (.cells zA C7))
 generalize (w.alloc (.cells ((pr a b).cs m) C7)).alloc (.cells zA C7)=w1 at hA hZ hb1 ⊢
 have hzA:=hA.lt
 have hzZ:=hZ.lt
 have hr1:RowX w1 (fun x=>x<w.heap.size) ia [a,b]:=hr.keep (fun x _ hl=>hb1.block x hl) (fun x _ hl=>hl)
 have hR:=X6 (Bl9 a b ha hb) (Bm0 hr1 hic hcap) (hown.old hb1)
 rw[Nt a b ha hb,<-hm] at hR
 refine wp_seq (Zs (Dz7 (C0:=fun u=>Below w1.heap.size w1 u) (k:=8) (b12:=false) h1 rfl (C6 hA rfl) hR (fun u hu=>A9 (hA.below hu hzA) Tryz.underlying3 rfl rfl) rfl fun a2 u hu h2=>B9 (h2.look 13 rfl) ?_))
 have hz:=hu.size
 have hbu:=A7 hb1 hu
 have hAu:=hA.below hu hzA
 have hZu:=hZ.below hu hzZ
 have hru:RowX (u.drewN 1) (fun x=>x<w.heap.size) ia [a,b]:=hr1.keep (fun x hx hl=>hu.block x hl) (fun x hx _=>hx)
 have hd:Below u.heap.size u (u.drewN 1):=B3 (Below.refl _ _) 1
 have hTw:=Us a b ia ic (u.drewN 1) hru
 rw[<-hm] at hTw
 refine Zs (Dz8 (d:=pr a b) (m:=m) (ty:=⟨#[84]⟩) (C:=fun v=>Below u.heap.size u v\/(v.heap[w.heap.size]? =u.heap[w.heap.size]?))
  (C0:=fun q v=>(∃s:S3,q=⟨none,0,s.d,s.c⟩/\RowN u.heap.size v s [a,b])/\Below u.heap.size u v)
  (C1:=fun y v=>y=((Fd.ref 1 (last+1)).dt,dm0)/\HQ B u v gh O (last+1) (T++[(last+1,.obj a b)])/\Moved O u v) h2 rfl rfl rfl (.inl hd)
  (fun v hv=>C6 ((hv.elim (fun q=>q.block _ Zo) id).trans hAu) rfl) (fun v hv=>A9 (t:=C7) (cs:=(pr a b).cs m) ((hv.elim (fun q=>q.block _ Zo) id).trans hAu) Tryz.underlying9 rfl rfl)
  (hTw.mono fun e v hh=> ?_) (fun q v hq=>.inl hq.2) (fun q v hq=>.inl (B2 hq.2 _)) (fun q v hq=> ?_) (fun q v hq y v2 hy=>.inr (hy.2.2.block _ Zo fun e=>by have:=(h.lim _ e).2;omega)) (fun q v hq y v2 hy=>D1 ((hy.2.2.block _ Zo fun e=>by have:=(h.lim _ e).2;omega).trans hZu) (by show 0+11<=11;omega)) fun a3 q v y v2 hq hy h3=>wp_ret ?_)
 ·obtain⟨s,r1,r2,r3⟩:=hh
  exact⟨⟨none,0,s.d,s.c⟩,r1,⟨s,rfl,r2⟩,A7 hd r3⟩
 ·obtain⟨⟨s,rfl,hs⟩,hbv⟩:=hq
  obtain⟨q1,q2,q3,q4⟩:=hs.row
  have hzv:=hbv.size
  have hN:NewT B (v.alloc (.cells ((pr a b).cs ⟨none,0,s.d,s.c⟩) Co8)) O (fun x=>u.heap.size<=x/\x<v.heap.size+1) v.heap.size (.obj a b):=
   ⟨fun x hx=>⟨Zo,by simp;exact hx.2,fun e=>by have:=(h.lim _ e).2;omega⟩,⟨hzv,Nat.lt_succ_self _⟩,s.d,s.c,Blk.new _ _ _,q1.keep (fun x _ hl=>Below.heap_alloc _ _ _ hl) (fun x hx hl=>⟨hx.1,Zo⟩),q3,q4⟩
  have hx:=h.old (A7 hb1 (A7 hu (B2 hbv (.cells ((pr a b).cs ⟨none,0,s.d,s.c⟩) Co8))))
  refine(Gp hx hl hN ⟨hdX 9 ⟨#[84]⟩ 0 0 0,.nil⟩ dm0).mono ?_
  rintro e v2 ⟨r1,r2,r3⟩
  exact⟨((Fd.ref 1 (last+1)).dt,dm0),r1,rfl,HQ.made (B2 hbv _) r2 r3 (fun x hx=>hx.1),(Moved.of_below (B2 hbv _)).trans (r3.more fun _ h=>.inl h)⟩
 ·obtain⟨rfl,hQ,hM⟩:=hy
  have hZ3:Blk v2 (w.heap.size+1) C7 zA:=(hM.block _ Zo fun e=>by have:=(h.lim _ e).2;omega).trans hZu
  have hZ4:=K1 (Fd.ref 1 (last+1)).dt dm0 hZ3
  have hZ5:Lds Tryz.prog C7 (.pointer (some ⟨w.heap.size+1,0,none⟩)) (.agg ((Fd.ref 1 (last+1)).dt.cs dm0)) _:=C6 hZ4 rfl
  exact Kd rfl h3 rfl rfl hZ5 ⟨rfl,HQ.fin hbu hQ Zo Zo (fun b hb=>(h.lim b hb).2) _ _⟩
theorem Ai2(xs:List Fd)(hok: ∀x,x∈xs->x.ok)(hl:xs.length<=1000)(ia:Option Addr)(ic:Nat){S:Nat->Prop}(hr:RowX w S ia xs)(hown:OwnAt w):
  Calls Tryz.prog 122 #[.slice ia xs.length ic,.func (.func 110) #[] #[]] w fun e w'=>e=.returned (ii (-1))/\Below w.heap.size w w':=by
 refine B6 (vs:=[.slice ia xs.length ic,.func (.func 110) #[] #[]]) 19 Tryz.func122 Af7 Zk (by simp) fun a0 h0=> ?_
 unfold Ua
 refine Zs (Ck5 h0 fun a1 h1=> ?_)
 refine wp_seq (Zs (Ck6 h1 rfl fun a2 h2=> ?_))
 refine wp_block ?_
 refine wp_loop (fun a' wr=> ∃i:Nat,i<=xs.length/\Sl 19 a' [(8,ii (i:Int)),(7,ii (xs.length:Int)),(1,.func (.func 110) #[] #[]),(0,.slice ia xs.length ic)]/\Below w.heap.size w wr) (fun a' _=>G1 xs.length (F9 a' 8))
  ⟨0,Nat.zero_le _,h2.to ⟨rfl,rfl,rfl,rfl,trivial⟩,Below.refl _ _⟩ ?_
 rintro a3 w3 ⟨i,hi,h3,hb3⟩
 rw[h3.look 8 rfl,B4]
 unfold Ck4
 by_cases hlt:i<xs.length
 ·refine Zs (Av2 h3 rfl rfl (decide_eq_true Zo) fun a4 h4=> ?_)
  refine wp_seq (wpn (h4.look 9 rfl) ?_)
  obtain⟨x,hx⟩: ∃x,xs[i]? =some x:=⟨xs[i],by simp[hlt]⟩
  have hxo:=hok x (List.mem_of_getElem? hx)
  have hr3:RowX w3 (fun b=>b<w.heap.size) ia xs:=hr.keep (fun b _ hl=>hb3.block b hl) (fun b _ hl=>hl)
  obtain⟨q,rfl,hq,_,hld⟩:=hr3.load hx
  refine wp_seq (wp_block ?_)
  refine Zs (Ck7 h4 rfl fun a5 h5=> ?_)
  refine Zs (Ck8 (d:=x.dt) (m:=dm0) (b16:=false) (C0:=fun u=>Below w3.heap.size w3 u) h5 rfl rfl rfl (fun w=>Q7 hlt w) hld ?_ fun a6 u hu h6=> ?_)
  ·refine B6 (vs:=[.agg (x.dt.cs dm0)]) 6 Tryz.func110 Bj5 Zk (by simp) fun b0 k0=> ?_
   unfold Au6
   refine Zs (Dz4 k0 rfl fun b1 k1=> ?_)
   have hA:=Blk.new w3 C7 (x.dt.cs dm0)
   have hb1:Below w3.heap.size w3 (w3.alloc (.cells (x.dt.cs dm0) C7)):=B2 (Below.refl _ _) _
   change Code.wp _ _ _ b1 (w3.alloc (.cells (x.dt.cs dm0) C7))
   generalize w3.alloc (.cells (x.dt.cs dm0) C7)=u1 at hA hb1 ⊢
   have hR:=X6 (Jg x hxo) (Gm x u1 fun _=>False) ((hown.old hb3).old hb1)
   rw[N2 x hxo] at hR
   refine Zs (Dz5 (C0:=fun u=>Below u1.heap.size u1 u) k1 rfl (C6 hA rfl) hR fun b2 u hu k2=>wp_ret ?_)
   exact G7 rfl k2 rfl ⟨rfl,A7 hb1 hu⟩
  ·refine B9 (h6.look 16 rfl) (B1 ?_)
   show Code.wp _ (U6 6) _ a6 u
   refine Zl (Ck9 h6 rfl Zo fun a7 h7=>⟨⟨i+1,hlt, ?_,A7 hb3 hu⟩, ?_⟩)
   ·exact h7.to ⟨rfl,rfl,rfl,rfl,trivial⟩
   ·rw[h7.look 8 rfl]
    show G1 xs.length (ii ((i+1:Nat):Int))<_
    rw[B4]
    omega
 ·refine Zs (Av2 h3 rfl rfl (decide_eq_false Zo) fun a4 h4=> ?_)
  refine wp_seq (C9 (h4.look 9 rfl) ?_)
  refine A8 (A8 (B8 ?_))
  refine Zs (Cl0 h4 fun a5 h5=>wp_ret ?_)
  exact G7 rfl h5 rfl ⟨rfl,hb3⟩
theorem Nu(xs:List Fd)(hok: ∀x,x∈xs->x.ok)(hl:xs.length<=1000)(ia:Option Addr)(ic:Nat){S:Nat->Prop}(hr:RowX w S ia xs)(hown:OwnAt w):
  Calls Tryz.prog 89 #[.slice ia xs.length ic] w fun e w'=>e=.returned (.bool true)/\Below w.heap.size w w':=by
 refine B6 (vs:=[.slice ia xs.length ic]) 6 Tryz.func89 Bj4 Zk (by simp) fun a0 h0=> ?_
 unfold Au5
 refine Zs (Dz2 h0 fun a1 h1=> ?_)
 refine Zs (Dz3 (b4:=false) (C0:=fun u=>Below w.heap.size w u) h1 rfl ?_ fun a2 u hu h2=>wp_ret ?_)
 ·refine B6 (vs:=[.slice ia xs.length ic,.func (.func 110) #[] #[]]) 9 Tryz.func109 Af9 Zk (by simp) fun b0 k0=> ?_
  unfold Ub
  refine Zs (Cl1 k0 fun b1 k1=> ?_)
  refine Zs (Cl2 (r7:= -1) (b8:=false) (C0:=fun u=>Below w.heap.size w u) k1 rfl rfl (Ai2 xs hok hl ia ic hr hown) rfl fun b2 u hu k2=>wp_ret ?_)
  exact G7 rfl k2 rfl ⟨rfl,hu⟩
 ·exact G7 rfl h2 rfl ⟨rfl,hu⟩
end Go.Proofs.YtbjegfpfmnleeaaGreatDoor
