/-
   Written by an AI agent.
-/
import Derived.Test.YtbjegfpfmnleeaaGreatDoorQw28
import Derived.Test.YtbjegfpfmnleeaaGreatDoorQw26
import Derived.Test.YtbjegfpfmnleeaaGreatDoorQw17
import Derived.Test.YtbjegfpfmnleeaaGreatDoorQw25
namespace Go.Proofs.YtbjegfpfmnleeaaGreatDoor
open Go.RowKit Go.Maps
set_option maxRecDepth 100000
def Th.ok:Th->Prop
 | .obj a b=>a.ok/\b.ok
 | .arr a b=>a.ok/\b.ok
 | .tab E=>E.length<=1000/\∀p,p∈E->p.1.ok/\p.2.ok
 | .box a=>a.ok
 | .fn _ bx b=>bx.length<=1000/\b.ok/\∀v,v∈bx-> -9223372036854775808<=v/\v<=9223372036854775807
def Th.bx:Th->List Int
 | .fn _ bx _=>bx
 | _=>[]
def Th.fo:Th->Fo
 | .obj a b=>.cons (pr a b).h (pr a b).k .nil
 | .arr a b=>xsF [a,b]
 | .tab E=>xsF (tabX E)
 | .box a=>.cons a.dt.h a.dt.k .nil
 | .fn _ _ b=>xsF [b]
def Th.raw:Th->List Int
 | .obj a b=>a.to++b.to
 | .arr a b=>a.to++b.to
 | .tab E=>(tabX E).flatMap Fd.to
 | .box a=>a.to
 | .fn _ bx b=>bx++b.to
theorem fd_to(x:Fd)(hx:x.ok):(if x.h.obj=0 then[] else[x.h.obj])=x.to:=by
 cases x with
 | nil=>rfl
 | num n=>rfl
 | ref k o=>
  have:(Fd.ref k o).h.obj=(o:Int):=by
   unfold Fd.h
   split<;>simp_all [hdX]
  rw[this,if_neg (by have:=hx.1;omega)]
  rfl
theorem refs_xs: ∀xs:List Fd,(∀x,x∈xs->x.ok)->refsF (xsF xs)=xs.flatMap Fd.to
 | [],_=>rfl
 | x::r,h=>by
  show(if x.h.obj=0 then[] else[x.h.obj])++([]++refsF (xsF r))=_
  rw[fd_to x (h x (by simp)),refs_xs r fun y hy=>h y (List.mem_cons_of_mem _ hy),List.nil_append,List.flatMap_cons]
theorem tabX_ok{E:List (Fd×Fd)}(h: ∀p,p∈E->p.1.ok/\p.2.ok): ∀x,x∈tabX E->x.ok:=fun x hx=>by
 unfold tabX at hx
 obtain⟨p,hp,hx⟩:=List.mem_flatMap.1 hx
 have:=h p (List.mem_reverse.1 hp)
 simp only[pairF,List.mem_cons,List.not_mem_nil,or_false] at hx
 rcases hx with rfl | rfl
 ·exact this.1
 ·exact this.2
theorem tabX_len(E:List (Fd×Fd)):(tabX E).length=2*E.length:=by
 unfold tabX
 rw[List.length_flatMap]
 have e:(fun a:Fd×Fd=>(pairF a).length)=fun _=>2:=rfl
 rw[e,List.map_const',List.sum_replicate_nat,List.length_reverse]
 omega
theorem to_len(x:Fd):x.to.length<=1:=by cases x<;>simp[Fd.to]
theorem flat_len: ∀xs:List Fd,(xs.flatMap Fd.to).length<=xs.length
 | []=>Nat.le_refl _
 | x::r=>by
  rw[List.flatMap_cons,List.length_append,List.length_cons]
  have:=flat_len r
  have:=to_len x
  omega
theorem raw_of(t:Th)(ht:t.ok):t.bx++refsF t.fo=t.raw:=by
 cases t with
 | obj a b=>
  show[]++([]++(refsF (xsF [a,b])++[]))=a.to++b.to
  rw[refs_xs [a,b] (by simp[ht.1,ht.2])]
  simp
 | arr a b=>
  show[]++refsF (xsF [a,b])=a.to++b.to
  rw[refs_xs [a,b] (by simp[ht.1,ht.2])]
  simp
 | tab E=>
  show[]++refsF (xsF (tabX E))=(tabX E).flatMap Fd.to
  rw[refs_xs _ (tabX_ok ht.2),List.nil_append]
 | box a=>
  show[]++refsF (xsF [a])=a.to
  rw[refs_xs [a] fun x hx=>by obtain rfl:=List.mem_singleton.1 hx;exact ht]
  simp
 | fn c bx b=>
  show bx++refsF (xsF [b])=bx++b.to
  rw[refs_xs [b] (by simpa using ht.2.1)]
  simp
theorem raw_len(t:Th)(ht:t.ok):t.raw.length<=10000:=by
 cases t with
 | obj a b=>have:=to_len a;have:=to_len b;simp only[Th.raw,List.length_append];omega
 | arr a b=>have:=to_len a;have:=to_len b;simp only[Th.raw,List.length_append];omega
 | tab E=>have h1:=flat_len (tabX E);rw[tabX_len] at h1;have:=ht.1;simp only[Th.raw];omega
 | box a=>have:=to_len a;simp only[Th.raw];omega
 | fn c bx b=>have:=to_len b;have:=ht.1;simp only[Th.raw,List.length_append];omega
theorem fo_ok(t:Th)(ht:t.ok):t.fo.ok:=by
 cases t with
 | obj a b=>have h:=pr_ok a b ht.1 ht.2;exact⟨h.1,h.2,trivial,h.3⟩
 | arr a b=>exact xsF_ok _ (by simp[ht.1,ht.2])
 | tab E=>exact xsF_ok _ (tabX_ok ht.2)
 | box a=>exact xsF_ok [a] fun x hx=>by obtain rfl:=List.mem_singleton.1 hx;exact ht
 | fn c bx b=>exact xsF_ok _ (by simpa using ht.2.1)
theorem xsF_len': ∀xs:List Fd,(xsF xs).len=xs.length
 | []=>rfl
 | _::r=>by simp only[xsF,Fo.len,List.length_cons];rw[xsF_len' r]
theorem fo_len(t:Th)(ht:t.ok):t.fo.len<=10000:=by
 cases t with
 | obj a b=>show(1:Nat)<=_;omega
 | arr a b=>show(2:Nat)<=_;omega
 | tab E=>show(xsF (tabX E)).len<=_;rw[xsF_len',tabX_len];have:=ht.1;omega
 | box a=>show(1:Nat)<=_;omega
 | fn c bx b=>show(1:Nat)<=_;omega
def Th.leads(t:Th):List Int:=dedup (sortZ t.raw)
def leadsT(T:Tm)(n:Nat):List Int:=match tget T n with
 | some t=>t.leads
 | none=>[]
def BoxR(w:World)(bx:List Int)(e:Ending)(w':World):Prop:= ∃x:S3,e=.returned (.slice x.d x.n x.c)/\(x.n=bx.length/\PathAt w' (fun b=>b<w.heap.size) x.d bx/\Below w.heap.size w w')
def HoldF(w:World)(S:Nat->Prop)(f:Fo)(e:Ending)(w':World):Prop:= ∃x:S3,e=.returned (.slice x.d x.n x.c)/\(x.n=f.len/\SlAt w' (fun b=>S b\/w.heap.size<=b) x.d f/\Below w.heap.size w w')
section
variable {w:World} {p:Nat} {S:Nat->Prop}
theorem hb_obj:Calls Tryz.prog 171 #[.pointer (some ⟨p,0,none⟩)] w (BoxR w []):=by
 refine calls_ev (vs:=[.pointer (some ⟨p,0,none⟩)]) 3 Tryz.func171 hdo_body (by kernel_rfl) (by simp) fun a0 h0=> ?_
 unfold hdoBody
 refine wp_seq (rg_wp (hdo_r0 h0 fun a1 h1=> ?_))
 refine wp_seq (rg_wp (hdo_r1 h1 fun a2 h2=>wp_ret ?_))
 exact ret1 rfl h2 rfl ⟨⟨none,0,0⟩,rfl,rfl,.inl rfl,Below.refl _ _⟩
theorem hb_box:Calls Tryz.prog 169 #[.pointer (some ⟨p,0,none⟩)] w (BoxR w []):=by
 refine calls_ev (vs:=[.pointer (some ⟨p,0,none⟩)]) 3 Tryz.func169 hdb_body (by kernel_rfl) (by simp) fun a0 h0=> ?_
 unfold hdbBody
 refine wp_seq (rg_wp (hdb_r0 h0 fun a1 h1=> ?_))
 refine wp_seq (rg_wp (hdb_r1 h1 fun a2 h2=>wp_ret ?_))
 exact ret1 rfl h2 rfl ⟨⟨none,0,0⟩,rfl,rfl,.inl rfl,Below.refl _ _⟩
theorem hb_arr:Calls Tryz.prog 173 #[.pointer (some ⟨p,0,none⟩)] w (BoxR w []):=by
 refine calls_ev (vs:=[.pointer (some ⟨p,0,none⟩)]) 3 Tryz.func173 hda_body (by kernel_rfl) (by simp) fun a0 h0=> ?_
 unfold hdaBody
 refine wp_seq (rg_wp (hda_r0 h0 fun a1 h1=> ?_))
 refine wp_seq (rg_wp (hda_r1 h1 fun a2 h2=>wp_ret ?_))
 exact ret1 rfl h2 rfl ⟨⟨none,0,0⟩,rfl,rfl,.inl rfl,Below.refl _ _⟩
theorem hb_tab:Calls Tryz.prog 164 #[.pointer (some ⟨p,0,none⟩)] w (BoxR w []):=by
 refine calls_ev (vs:=[.pointer (some ⟨p,0,none⟩)]) 3 Tryz.func164 hdt_body (by kernel_rfl) (by simp) fun a0 h0=> ?_
 unfold hdtBody
 refine wp_seq (rg_wp (hdt_r0 h0 fun a1 h1=> ?_))
 refine wp_seq (rg_wp (hdt_r1 h1 fun a2 h2=>wp_ret ?_))
 exact ret1 rfl h2 rfl ⟨⟨none,0,0⟩,rfl,rfl,.inl rfl,Below.refl _ _⟩
theorem hb_fn{c:Int}{pa:Option Addr}{pc:Nat}{bx:List Int}{v:Value}(hB:Blk w p fnT #[.int .i64 c,.slice pa bx.length pc,v])(hp:PathAt w S pa bx)(hS: ∀b,S b->b<w.heap.size):Calls Tryz.prog 175 #[.pointer (some ⟨p,0,none⟩)] w (BoxR w bx):=by
 refine calls_ev (vs:=[.pointer (some ⟨p,0,none⟩)]) 7 Tryz.func175 hdr_body (by kernel_rfl) (by simp) fun a0 h0=> ?_
 unfold hdrBody
 refine wp_seq (rg_wp (hdr_r0 h0 fun a1 h1=> ?_))
 refine wp_seq (rg_wp (hdr_r1 h1 rfl (one_load hB Tryz.underlying24 rfl rfl) fun a2 h2=>wp_ret ?_))
 exact ret1 rfl h2 rfl ⟨⟨pa,bx.length,pc⟩,rfl,rfl,hp.keep (fun _ _ _=>rfl) (fun b h _=>hS b h),Below.refl _ _⟩
theorem hh_dat{d:Dt}{m:Dm}(hd:d.at w S m):SlAt (w.alloc (.cells (d.cs m) datT)) (fun b=>S b\/w.heap.size<=b) (some ⟨w.heap.size,0,none⟩) (.cons d.h d.k .nil):=by
 have hB:=Blk.new w datT (d.cs m)
 have hb:Below w.heap.size w (w.alloc (.cells (d.cs m) datT)):=bl_alloc (Below.refl _ _) _
 have hd':=hd.keep (w':=w.alloc (.cells (d.cs m) datT)) (S':=fun b=>S b\/w.heap.size<=b) (fun b _ hl=>hb.block b hl) (fun b h _=>.inl h)
 refine .inr ⟨_,0,rfl,.inr (Nat.le_refl _),⟨m.pa,m.pc,m.ia,m.ic,fun j v hj=> ?_,hd'.path,hd'.pcLe,hd'.pcMax,hd'.icLe,hd'.icMax,hd'.kids⟩,trivial⟩
 rw[hB.cell,Nat.zero_add]
 exact hj
theorem hh_obj{d:Dt}{m:Dm}(hB:Blk w p objT (d.cs m))(hd:d.at w S m):Calls Tryz.prog 172 #[.pointer (some ⟨p,0,none⟩)] w (HoldF w S (.cons d.h d.k .nil)):=by
 refine calls_ev (vs:=[.pointer (some ⟨p,0,none⟩)]) 8 Tryz.func172 hho_body (by kernel_rfl) (by simp) fun a0 h0=> ?_
 unfold hhoBody
 refine wp_seq (rg_wp (hho_r0 h0 fun a1 h1=> ?_))
 refine wp_seq (rg_wp (hho_r1 (d:=d) (m:=m) h1 rfl (dat_load hB rfl) fun a2 h2=>wp_ret ?_))
 exact ret1 rfl h2 rfl ⟨⟨some ⟨w.heap.size,0,none⟩,1,1⟩,rfl,rfl,hh_dat hd,bl_alloc (Below.refl _ _) _⟩
theorem hh_box{d:Dt}{m:Dm}(hB:Blk w p boxT (d.cs m))(hd:d.at w S m):Calls Tryz.prog 170 #[.pointer (some ⟨p,0,none⟩)] w (HoldF w S (.cons d.h d.k .nil)):=by
 refine calls_ev (vs:=[.pointer (some ⟨p,0,none⟩)]) 8 Tryz.func170 hhb_body (by kernel_rfl) (by simp) fun a0 h0=> ?_
 unfold hhbBody
 refine wp_seq (rg_wp (hhb_r0 h0 fun a1 h1=> ?_))
 refine wp_seq (rg_wp (hhb_r1 (d:=d) (m:=m) h1 rfl (dat_load hB rfl) fun a2 h2=>wp_ret ?_))
 exact ret1 rfl h2 rfl ⟨⟨some ⟨w.heap.size,0,none⟩,1,1⟩,rfl,rfl,hh_dat hd,bl_alloc (Below.refl _ _) _⟩
theorem hh_arr{ia:Option Addr}{ic:Nat}{xs:List Fd}(hB:Blk w p arrT #[.slice ia xs.length ic])(hr:RowX w S ia xs):Calls Tryz.prog 174 #[.pointer (some ⟨p,0,none⟩)] w (HoldF w S (xsF xs)):=by
 refine calls_ev (vs:=[.pointer (some ⟨p,0,none⟩)]) 7 Tryz.func174 hha_body (by kernel_rfl) (by simp) fun a0 h0=> ?_
 unfold hhaBody
 refine wp_seq (rg_wp (hha_r0 h0 fun a1 h1=> ?_))
 refine wp_seq (rg_wp (hha_r1 h1 rfl (one_load hB Tryz.underlying23 rfl rfl) fun a2 h2=>wp_ret ?_))
 exact ret1 rfl h2 rfl ⟨⟨ia,xs.length,ic⟩,rfl,(xsF_len' xs).symm,(RowX.sl hr).keep (fun _ _ _=>rfl) (fun b h _=>.inl h),Below.refl _ _⟩
theorem hh_fn{ia:Option Addr}{ic:Nat}{xs:List Fd}{v u:Value}(hB:Blk w p fnT #[v,u,.slice ia xs.length ic])(hr:RowX w S ia xs):Calls Tryz.prog 176 #[.pointer (some ⟨p,0,none⟩)] w (HoldF w S (xsF xs)):=by
 refine calls_ev (vs:=[.pointer (some ⟨p,0,none⟩)]) 7 Tryz.func176 hhr_body (by kernel_rfl) (by simp) fun a0 h0=> ?_
 unfold hhrBody
 refine wp_seq (rg_wp (hhr_r0 h0 fun a1 h1=> ?_))
 refine wp_seq (rg_wp (hhr_r1 h1 rfl (one_load hB Tryz.underlying23 rfl rfl) fun a2 h2=>wp_ret ?_))
 exact ret1 rfl h2 rfl ⟨⟨ia,xs.length,ic⟩,rfl,(xsF_len' xs).symm,(RowX.sl hr).keep (fun _ _ _=>rfl) (fun b h _=>.inl h),Below.refl _ _⟩
end
theorem th_boxes{w:World}{S:Nat->Prop}{p:Nat}{t:Th}(h:ThAt w S p t)(hS: ∀b,S b->b<w.heap.size):
  match t with
  | .obj .. =>Calls Tryz.prog 171 #[.pointer (some ⟨p,0,none⟩)] w (BoxR w t.bx)
  | .arr .. =>Calls Tryz.prog 173 #[.pointer (some ⟨p,0,none⟩)] w (BoxR w t.bx)
  | .tab .. =>Calls Tryz.prog 164 #[.pointer (some ⟨p,0,none⟩)] w (BoxR w t.bx)
  | .box .. =>Calls Tryz.prog 169 #[.pointer (some ⟨p,0,none⟩)] w (BoxR w t.bx)
  | .fn .. =>Calls Tryz.prog 175 #[.pointer (some ⟨p,0,none⟩)] w (BoxR w t.bx):=by
 cases t with
 | obj a b=>exact hb_obj
 | arr a b=>exact hb_arr
 | tab E=>exact hb_tab
 | box a=>exact hb_box
 | fn c bx b=>obtain⟨pa,pc,ia,ic,h1,h2,_⟩:=h;exact hb_fn h1 h2 hS
theorem th_holds{w:World}{S:Nat->Prop}{p:Nat}{t:Th}(h:ThAt w S p t)(ht:t.ok)(hown:OwnAt w):
  match t with
  | .obj .. =>Calls Tryz.prog 172 #[.pointer (some ⟨p,0,none⟩)] w (HoldF w S t.fo)
  | .arr .. =>Calls Tryz.prog 174 #[.pointer (some ⟨p,0,none⟩)] w (HoldF w S t.fo)
  | .tab .. =>Calls Tryz.prog 165 #[.pointer (some ⟨p,0,none⟩)] w (HoldF w S t.fo)
  | .box .. =>Calls Tryz.prog 170 #[.pointer (some ⟨p,0,none⟩)] w (HoldF w S t.fo)
  | .fn .. =>Calls Tryz.prog 176 #[.pointer (some ⟨p,0,none⟩)] w (HoldF w S t.fo):=by
 cases t with
 | obj a b=>obtain⟨ia,ic,h1,h2,h3,h4⟩:=h;exact hh_obj h1 (pr_at h2 h3 h4)
 | arr a b=>obtain⟨ia,ic,h1,h2,h3⟩:=h;exact hh_arr (xs:=[a,b]) h1 h2
 | tab E=>
  obtain⟨mb,R,D,Om,h1,h2,h3,h4⟩:=h
  refine(hholds_tab h1 h2 h4 (by have:=ht.1;omega) hown).mono ?_
  rintro e w' ⟨s,r1,r2,r3,r4⟩
  exact⟨s,r1,r2.trans (xsF_len' _).symm,r3.keep (fun _ _ _=>rfl) (fun b h _=>.inr h),r4⟩
 | box a=>exact hh_box h (fd_at a w S)
 | fn c bx b=>obtain⟨pa,pc,ia,ic,h1,h2,_,_,h5,_⟩:=h;exact hh_fn (xs:=[b]) h1 h5
theorem ZRow.low{w:World}{B lo:Nat}{s:S3}{l:List Int}(h:ZRow w lo s l)(e:B<=lo):ZRow w B s l:=⟨h.1,h.2.1,h.2.2.imp_right fun⟨g,c,cs,e1,e2,r⟩=>⟨g,c,cs,e1,Nat.le_trans e e2,r⟩⟩
variable {B:Nat} {w:World} {gh:Nat} {O:Nat->Prop} {last:Nat} {T:Tm} {bm:Nat} {pt:Nat->Nat} {own:Nat->Nat->Prop}
theorem hLeads_any(h:HSx B w gh O last T bm pt own)(hown:OwnAt w)(n:Nat)(hn:n<=1000000)(hT: ∀i t,(i,t)∈T->t.ok):
  Calls Tryz.prog 21 #[.pointer (some ⟨gh,0,none⟩),.int .i64 (n:Int)] w fun e w'=> ∃y:S3,e=.returned (.slice y.d y.n y.c)/\(ZRow w' w.heap.size y (leadsT T n)/\Below w.heap.size w w'):=by
 refine calls_ev (vs:=[.pointer (some ⟨gh,0,none⟩),.int .i64 (n:Int)]) 29 Tryz.func21 hL_body (by kernel_rfl) (by simp) fun a0 h0=> ?_
 unfold hLBody
 refine wp_seq (rg_wp (hL_r0 h0 fun a1 h1=> ?_))
 have hlk:=h.hp.bm.look2 (z:=.nilIface) Tryz.underlying79 (fun _=>Tryz.zeroValue81 _) (k:=(n:Int)) (by omega)
 rw[im_get] at hlk
 unfold leadsT
 cases hg:tget T n with
 | none=>
  rw[hg] at hlk
  refine wp_seq (rg_wp (hL_r1 h1 rfl rfl h.hp.lm hlk fun a2 h2=> ?_))
  refine wp_seq (wp_seq (rg_wp (hL_r2 h2 rfl fun a3 h3=>wp_cond_true (h3.look 18 rfl) ?_)))
  refine wp_seq (rg_wp (hL_r3 h3 fun a4 h4=>wp_ret ?_))
  exact then_ret (ret1 rfl h4 rfl ⟨⟨none,0,0⟩,rfl,ZRow.nil _ _,Below.refl _ _⟩)
 | some t=>
  rw[hg] at hlk
  have hmem:=tget_mem hg
  have hok:=hT n t hmem
  obtain⟨hth,hpt⟩:=h.th n t hmem
  have hlo: ∀b,own n b->b<w.heap.size:=fun b hb=>(h.lim b (h.sub n b hb).1).2
  refine wp_seq (rg_wp (hL_r1 h1 rfl rfl h.hp.lm hlk fun a2 h2=> ?_))
  refine wp_seq (wp_seq (rg_wp (hL_r2 h2 rfl fun a3 h3=>wpc_off (h3.look 18 rfl) ?_)))
  have h3:Sl 29 a3 [(5,t.if (pt n))] []:=h3.to ⟨rfl,trivial⟩
  have fin: ∀(a4:Act) (s:S3) (u:World),ZRow u w.heap.size s (t.bx++refsF t.fo)->Below w.heap.size w u->Sl 29 a4 [(7,.slice s.d s.n s.c)] []->Code.wp Tryz.prog (.seq (r_hL 5) (.seq (r_hL 6) .ret)) (bodyPost Tryz.prog Tryz.f21 fun e w'=> ∃y:S3,e=.returned (.slice y.d y.n y.c)/\(ZRow w' w.heap.size y t.leads/\Below w.heap.size w w')) a4 u:=fun a4 s u hZ hb h4=>by
   rw[raw_of t hok] at hZ
   have hl:=raw_len t hok
   refine wp_seq (rg_wp (hL_r5 h4 rfl (zsort_any hZ (by omega)) fun a5 u2 hu2 h5=> ?_))
   obtain⟨hZ2,hR2⟩:=hu2
   refine wp_seq (rg_wp (hL_r6 h5 rfl (zcompact_any hZ2 (by unfold sortZ;rw[List.length_mergeSort];omega)) fun a6 y u3 hu3 h6=>wp_ret ?_))
   obtain⟨hZ3,hR3⟩:=hu3
   refine ret1 rfl h6 rfl ⟨y,rfl,hZ3, ?_⟩
   have h7:=hR2.trans hR3
   exact hb.trans (h7.bel (fun g hg=>(ARow.block hZ hg).1) hb.size)
  have c1:=th_boxes hth hlo
  have hc2: ∀(x:S3) (w1:World),(x.n=t.bx.length/\PathAt w1 (fun b=>b<w.heap.size) x.d t.bx/\Below w.heap.size w w1)->Calls Tryz.prog 39 #[.slice x.d x.n x.c] w1 fun e w'=> ∃y:S3,e=.returned (.slice y.d y.n y.c)/\(∃lo:Nat,w.heap.size<=lo/\ZRow w' lo y t.bx/\Below w.heap.size w w'/\(∀g,y.v.ownBlock=some g->g<w'.heap.size)):=fun x w1 ⟨q1,q2,q3⟩=>by
   rw[q1]
   have hlb:t.bx.length<=10000:=by have:=raw_len t hok;rw[<-raw_of t hok,List.length_append] at this;omega
   refine(zclone_any q2 x.c (by omega)).mono ?_
   rintro e w' ⟨y,r1,r2,r3⟩
   exact⟨y,r1,w1.heap.size,q3.size,r2,bl_trans q3 r3,fun g hg=>(ARow.block r2 hg).2⟩
  have hth2: ∀w2,Below w.heap.size w w2->ThAt w2 (own n) (pt n) t:=fun w2 hb=>hth.keep hpt hb.size (fun b _ hl=>hb.block b hl) (fun b hb _=>hb)
  have hc5: ∀(y:S3) (w2:World),(∃lo:Nat,w.heap.size<=lo/\ZRow w2 lo y t.bx/\Below w.heap.size w w2/\(∀g,y.v.ownBlock=some g->g<w2.heap.size))->∀(z:S3) (w3:World),(z.n=t.fo.len/\SlAt w3 (fun b=>own n b\/w2.heap.size<=b) z.d t.fo/\Below w2.heap.size w2 w3)->Calls Tryz.prog 38 #[.slice y.d y.n y.c,.slice z.d z.n z.c] w3 fun e w'=> ∃s:S3,e=.returned (.slice s.d s.n s.c)/\(ZRow w' w.heap.size s (t.bx++refsF t.fo)/\Below w.heap.size w w'):=fun y w2 ⟨lo,hlo1,q1,q2,q3⟩ z w3 ⟨r1,r2,r3⟩=>by
   rw[r1]
   have hZ3:ZRow w3 lo y t.bx:=q1.old r3
   have hz3:=r3.size
   have hl:=raw_len t hok
   rw[<-raw_of t hok] at hl
   have hlo2: ∀g,y.v.ownBlock=some g->lo<=g:=fun g hg=>(ARow.block q1 hg).1
   refine(refs_any t.fo (fo_ok t hok) (by have:=fo_len t hok;omega) w3 w.heap.size _ y t.bx z.d z.c (ZRow.low hZ3 hlo1) (by have:=q2.size;omega) r2 (fun b hb e=> ?_) (by omega)).mono ?_
   ·rcases hb with hb | hb
    ·have:=hlo b hb
     have:=hlo2 b e
     omega
    ·have:=q3 b e
     omega
   ·rintro e w' ⟨s,s1,s2,s3⟩
    refine⟨s,s1,s2,q2.trans ((r3.mono q2.size).trans (s3.bel (fun g hg=>Nat.le_trans hlo1 (hlo2 g hg)) (by have:=q2.size;omega)))⟩
  have fin2: ∀(a4:Act) (x:S3) (w1:World) (y:S3) (w2:World) (z:S3) (w3:World) (s:S3) (w4:World),True->True->True->(ZRow w4 w.heap.size s (t.bx++refsF t.fo)/\Below w.heap.size w w4)->Sl 29 a4 ((7,.slice s.d s.n s.c)::dropL (7::List.range' 19 6) [(5,t.if (pt n))]) []->Code.wp Tryz.prog (.seq (r_hL 5) (.seq (r_hL 6) .ret)) (bodyPost Tryz.prog Tryz.f21 fun e w'=> ∃y:S3,e=.returned (.slice y.d y.n y.c)/\(ZRow w' w.heap.size y t.leads/\Below w.heap.size w w')) a4 w4:=fun a4 x w1 y w2 z w3 s w4 _ _ _ hq h4=>fin a4 s w4 hq.1 hq.2 (h4.to ⟨rfl,trivial⟩)
  cases t with
  | obj a b=>exact wp_seq (rg_wp (hL_r4_object h3 rfl (fun w=>by kernel_rfl) c1 hc2 (fun w=>by kernel_rfl) (fun x w1 hx y w2 hy=>th_holds (t:=.obj a b) (hth2 w2 hy.choose_spec.2.2.1) hok (hown.old hy.choose_spec.2.2.1)) (fun x w1 hx=>hc5) fun a4 x w1 y w2 z w3 s w4 _ _ _ hq h4=>fin2 a4 x w1 y w2 z w3 s w4 trivial trivial trivial hq h4))
  | arr a b=>exact wp_seq (rg_wp (hL_r4_array h3 rfl (fun w=>by kernel_rfl) c1 hc2 (fun w=>by kernel_rfl) (fun x w1 hx y w2 hy=>th_holds (t:=.arr a b) (hth2 w2 hy.choose_spec.2.2.1) hok (hown.old hy.choose_spec.2.2.1)) (fun x w1 hx=>hc5) fun a4 x w1 y w2 z w3 s w4 _ _ _ hq h4=>fin2 a4 x w1 y w2 z w3 s w4 trivial trivial trivial hq h4))
  | tab E=>exact wp_seq (rg_wp (hL_r4_table h3 rfl (fun w=>by kernel_rfl) c1 hc2 (fun w=>by kernel_rfl) (fun x w1 hx y w2 hy=>th_holds (t:=.tab E) (hth2 w2 hy.choose_spec.2.2.1) hok (hown.old hy.choose_spec.2.2.1)) (fun x w1 hx=>hc5) fun a4 x w1 y w2 z w3 s w4 _ _ _ hq h4=>fin2 a4 x w1 y w2 z w3 s w4 trivial trivial trivial hq h4))
  | box a=>exact wp_seq (rg_wp (hL_r4_box h3 rfl (fun w=>by kernel_rfl) c1 hc2 (fun w=>by kernel_rfl) (fun x w1 hx y w2 hy=>th_holds (t:=.box a) (hth2 w2 hy.choose_spec.2.2.1) hok (hown.old hy.choose_spec.2.2.1)) (fun x w1 hx=>hc5) fun a4 x w1 y w2 z w3 s w4 _ _ _ hq h4=>fin2 a4 x w1 y w2 z w3 s w4 trivial trivial trivial hq h4))
  | fn c bx b=>exact wp_seq (rg_wp (hL_r4_routine h3 rfl (fun w=>by kernel_rfl) c1 hc2 (fun w=>by kernel_rfl) (fun x w1 hx y w2 hy=>th_holds (t:=.fn c bx b) (hth2 w2 hy.choose_spec.2.2.1) hok (hown.old hy.choose_spec.2.2.1)) (fun x w1 hx=>hc5) fun a4 x w1 y w2 z w3 s w4 _ _ _ hq h4=>fin2 a4 x w1 y w2 z w3 s w4 trivial trivial trivial hq h4))
end Go.Proofs.YtbjegfpfmnleeaaGreatDoor

namespace Go.Proofs.YtbjegfpfmnleeaaGreatDoor
open Go.RowKit Go.Maps
set_option maxRecDepth 100000
theorem values_seq{σ:Type}(g1:Nat)(s:S3)(zs:List Int)(hzl:zs.length<=1000000)(S:Nat->Prop)(w0:World):SeqZ Tryz.prog 51 #[.pointer (some ⟨g1,0,none⟩)] (fun x:Int=>#[.int .i64 x])
  (fun(_:σ) (_:List Int) A=>Blk A g1 24 #[.slice s.d zs.length s.c]/\PathAt A S s.d zs) (fun _ pre x _ _=>zs[pre.length]? =some x) (fun _ xs _=>xs=zs) w0:=by
 intro own l J Jx st0 W hb hJ hJx hM hO hY h0
 refine callsIn_wide.2 (calls_ev (vs:=[.func (.yield l) #[] #[],.pointer (some ⟨g1,0,none⟩)]) 16 Tryz.func51 sw_body (by kernel_rfl) (by simp) fun a0 h0'=> ?_)
 unfold swBody
 obtain⟨c1,_⟩:=hM _ _ _ h0
 refine wp_seq (rg_wp (sw_r0 (sn:=zs.length) h0' rfl (one_load c1 Tryz.underlying24 rfl rfl) fun a1 h1=> ?_))
 refine wp_block ?_
 refine wp_loop (fun a' wr=> ∃(st:σ) (i:Nat),i<=zs.length/\Sl 16 a' [(7,.int .i64 (i:Int)),(6,.int .i64 (zs.length:Int)),(5,.slice s.d zs.length s.c),(0,.func (.yield l) #[] #[])]/\J st (zs.take i) wr) (fun a' _=>muTo zs.length (slot a' 7))
  ⟨st0,0,Nat.zero_le _,h1.to ⟨rfl,rfl,rfl,rfl,trivial⟩,h0⟩ ?_
 rintro a2 w2 ⟨st,i,hi,h2,hJ2⟩
 rw[h2.look 7 rfl,muTo_int]
 unfold swL0
 by_cases hlt:i<zs.length
 ·refine wp_seq (rg_wp (sw_r1 h2 rfl rfl (decide_eq_true (by omega)) fun a3 h3=> ?_))
  refine wp_seq (wpn (h3.look 8 rfl) ?_)
  obtain⟨x,hx⟩: ∃x,zs[i]? =some x:=⟨zs[i],List.getElem?_eq_getElem hlt⟩
  obtain⟨q,o,hq,_,hc⟩:=(hM _ _ _ hJ2).2.get hx
  rw[hq] at h3
  refine wp_seq (wp_block ?_)
  refine wp_seq (rg_wp (sw_r2 h3 rfl rfl (fun w=>ix_int hlt w) (lds1 Tryz.underlying3 rfl (by rw[Nat.mul_one];exact hc)) fun a4 h4=> ?_))
  have hl:(zs.take i).length=i:=by rw[List.length_take];omega
  have htk:zs.take (i+1)=zs.take i++[x]:=by rw[List.take_add_one,hx];rfl
  have hyl:=hY st (zs.take i) x (fun _=>False) w2 hJ2 (by show zs[(zs.take i).length]? =some x;rw[hl];exact hx) (fun _ h=>h.elim)
  refine wp_seq (sw_r3 (C0:=fun b W'=> ∃st',(b=true/\J st' (zs.take i++[x]) W')\/(b=false/\Jx st' (zs.take i++[x]) W')) h4 rfl rfl (YieldAt.mono hyl fun r W' hh=> ?_) fun a5 b w5 hx5 h5=> ?_)
  ·obtain⟨st',⟨rfl,hh⟩ | ⟨rfl,hh⟩,_⟩:=hh
   ·exact⟨true,rfl,st',.inl ⟨rfl,hh⟩⟩
   ·exact⟨false,rfl,st',.inr ⟨rfl,hh⟩⟩
  obtain⟨st',⟨rfl,hJ5⟩ | ⟨rfl,hJx5⟩⟩:=hx5
  ·refine wpc_off (h5.look 14 rfl) (block_norm ?_)
   show Code.wp _ (r_sw 4) _ a5 w5
   refine wpl (rg_wp (sw_r4 h5 rfl (by omega) fun a6 h6=>⟨⟨st',i+1,hlt, ?_,by rw[htk];exact hJ5⟩, ?_⟩))
   ·rw[hq]
    exact h6.to ⟨rfl,rfl,rfl,rfl,trivial⟩
   ·rw[h6.look 7 rfl]
    show muTo zs.length (.int .i64 ((i+1:Nat):Int))<_
    rw[muTo_int]
    omega
  ·refine wp_cond_true (h5.look 14 rfl) (wp_ret ?_)
   repeat (first | with_reducible refine then_ret ?_ | with_reducible refine block_ret ?_)
   exact bodyPost_ret (results_none rfl _ _ _) h5.defers ⟨⟨_,rfl⟩,.inr ⟨_,_,hJx5⟩⟩
 ·refine wp_seq (rg_wp (sw_r1 h2 rfl rfl (decide_eq_false (by omega)) fun a3 h3=> ?_))
  refine wp_seq (wpc_exit (h3.look 8 rfl) ?_)
  refine then_exit' (then_exit' (in_block2 ?_))
  obtain rfl:i=zs.length:=by omega
  rw[List.take_length] at hJ2
  exact bodyPost_end (results_none rfl _ _ _) h3.defers ⟨⟨_,rfl⟩,.inl ⟨st,zs,rfl,hJ2⟩⟩
theorem values_any(s:S3)(w:World):Calls Tryz.prog 28 #[.slice s.d s.n s.c] w fun e w'=>e=.returned (.func (.func 51) #[] #[.pointer (some ⟨w.heap.size,0,none⟩)])/\w'=w.alloc (.cells #[.slice s.d s.n s.c] 24):=by
 refine calls_ev (vs:=[.slice s.d s.n s.c]) 4 Tryz.func28 sv_body (by kernel_rfl) (by simp) fun a0 h0=> ?_
 unfold svBody
 refine wp_seq (rg_wp (sv_r0 h0 rfl fun a1 h1=> ?_))
 refine wp_seq (rg_wp (sv_r1 h1 rfl fun a2 h2=>wp_ret ?_))
 exact ret1 rfl h2 rfl ⟨rfl,rfl⟩
set_option maxHeartbeats 1000000 in
theorem appseq_any{w:World}{g1:Nat}{z:S3}{zs:List Int}{S:Nat->Prop}(hB:Blk w g1 24 #[.slice z.d zs.length z.c])(hp:PathAt w S z.d zs)(hS: ∀b,S b->b<w.heap.size)(hl:zs.length<=1000000)(hown:OwnAt w):
  Calls Tryz.prog 76 #[.slice none 0 0,.func (.func 51) #[] #[.pointer (some ⟨g1,0,none⟩)]] w fun e w'=> ∃q:S3,e=.returned (.slice q.d q.n q.c)/\(ZRow w' w.heap.size q zs/\Below w.heap.size w w'):=by
 refine calls_evM (vs:=[.slice none 0 0,.func (.func 51) #[] #[.pointer (some ⟨g1,0,none⟩)]]) 13 Tryz.func76 sa_body (by kernel_rfl) (by simp) fun a0 h0=> ?_
 unfold saBody
 refine wp_seq (rg_wp (sa_r0 h0 rfl fun a1 h1=> ?_))
 have hG:=Blk.new w 24 #[.slice none 0 0]
 have hb1:Below w.heap.size w (w.alloc (.cells #[.slice none 0 0] 24)):=bl_alloc (Below.refl _ _) _
 change Code.wp _ _ _ a1 (w.alloc (.cells #[.slice none 0 0] 24))
 generalize w.alloc (.cells #[.slice none 0 0] 24)=u at hG hb1 ⊢
 have hzu:=hG.lt
 have hlt:=hB.lt
 refine wp_seq (wp_seq (rg_wp (sa_r1 h1 rfl fun a3 h3=> ?_)))
 refine wp_block ?_
 refine range_z (σ:=S3) (g:=.tmp 6) (ps:=#[7]) (gf:=51) (lb:=#[.pointer (some ⟨g1,0,none⟩)]) (h3.look 6 rfl) (Go.Proofs.enters_of Tryz.func51 (by kernel_rfl) rfl)
  (values_seq g1 z zs hl (fun b=>b<w.heap.size) u) (Below.refl _ _) (fun _=>rfl) (fun s b=>b=w.heap.size\/s.v.ownBlock=some b)
  (fun s pre A=>Blk A w.heap.size 24 #[.slice s.d s.n s.c]/\ZRow A u.heap.size s pre/\Below w.heap.size w A/\u.heap.size<=A.heap.size)
  (fun _ _ _ _=>False) ?hI (fun _ _ _ _ _ h _=>h) ?hM ?hO (fun _ _ _ _ _ _ h _=>h) ⟨none,0,0⟩ ?h0
  (fun s x _ a' A=>Sl 13 a' [(5,.int .i64 x),(2,.pointer (some ⟨w.heap.size,0,none⟩))] []) (fun _ _ _ _ _ _ h _=>h) ?ha ?hb ?hd (fun _ _ _ _ h=>h.elim) (fun _ _ _ _ h _=>h)
 case hI=>
  rintro s pre A C ⟨q1,q2,q3,q4⟩ e
  exact⟨q1.ext e,⟨q2.1,row_ext q2.2 e⟩,Below.ext' q3 e (by omega),Nat.le_trans q4 e.size⟩
 case hM=>
  rintro s pre A ⟨q1,q2,q3,q4⟩
  exact⟨hB.below q3 hlt,hp.keep (fun b h _=>q3.block b (hS b h)) (fun b h _=>hS b h)⟩
 case hO=>
  rintro s pre A ⟨q1,q2,q3,q4⟩ b hb
  rcases hb with rfl | hb
  ·exact q1.lt
  ·exact(ARow.block q2 hb).2
 case h0=>
  exact⟨hG,ZRow.nil _ _,hb1,Nat.le_refl _⟩
 case ha=>
  rintro l s pre x Hd W Kn ⟨q1,q2,q3,q4⟩ hy hHd hK
  refine rg_in (sa_r2 (h3.yield1 7 (by omega) _) rfl fun a4 h4=> ?_) (by kernel_rfl) (fun⟨_,_,h⟩=>h)
  exact hK a4 _ (Below.refl _ _) (h4.to ⟨rfl,rfl,trivial⟩)
 case hb=>
  rintro l s pre x Hd a4 W ⟨q1,q2,q3,q4⟩ hy hHd h4
  have hpl:=(List.getElem?_eq_some_iff.1 hy).1
  have hwz:=q1.lt
  have hne:s.v.ownBlock≠some w.heap.size:=fun e=>by have:=(ARow.block q2 e).1;omega
  refine wpIn_block (wplI (sa_r3 (C0:=fun _ t v=>ZRow v u.heap.size t (pre++[x])/\Moved (fun b=>s.v.ownBlock=some b) W v/\(t.v.ownBlock=s.v.ownBlock\/∃g,t.v.ownBlock=some g/\W.heap.size<=g)) h4 rfl rfl (one_load q1 Tryz.underlying24 rfl rfl) (fun ty=> ?_) (fun t v hv=>one_store ((hv.2.1.block _ hwz hne).trans q1) (by kernel_rfl) (by show 0<1;omega) rfl) fun a5 t v hv h5=> ?_) (by kernel_rfl) (block_outs postZ_out))
  ·obtain⟨s',v,r1,r2,r3,r4⟩:=ZRow.app q2 (by omega) q4 x ty
   exact⟨s',v,r1,r2,r3,r4.imp_right fun e=>⟨_,e,by omega⟩⟩
  ·obtain⟨hZ,hM,ho⟩:=hv
   have hg:Blk (v.setCells w.heap.size 0 [.slice t.d t.n t.c]) w.heap.size 24 #[.slice t.d t.n t.c]:=Blk.set_ ((hM.block _ hwz hne).trans q1) 0 _
   have hnt: ∀g,t.v.ownBlock=some g->g≠w.heap.size:=fun g e=>by have:=(ARow.block hZ e).1;omega
   have hM2:Moved (fun b=>b=w.heap.size\/s.v.ownBlock=some b) W (v.setCells w.heap.size 0 [.slice t.d t.n t.c]):=(hM.more fun b hb=>.inr hb).set (.inl (.inl rfl)) _ _
   have hbf:=hM2.below q3 (fun b hb q=>by
    rcases q with q | q
    ·omega
    ·have:=(ARow.block q2 q).1
     omega) q3.size
   refine block_norm ⟨keeps_cel hM2 fun b hb=> ?_,t,⟨hg,ARow.keep hZ fun g e=>setCells_other _ _ _ (hnt g e),hbf,Nat.le_trans q4 hM2.size⟩,hM2.more (fun b hb=>.inl hb),fun b hb=> ?_⟩
   ·rcases hb with rfl | hb
    ·exact⟨_,_,q1⟩
    ·rcases ARow.cases q2 with⟨e,_⟩ | ⟨g',cs,_,e2,_,e4,_⟩
     ·rw[e] at hb
      cases hb
     ·rw[e2] at hb
      injection hb with hb
      subst hb
      exact⟨_,_,e4⟩
   ·rcases hb with hb | hb
    ·exact .inl (.inl hb)
    ·rcases ho with q | ⟨g,q,hg⟩
     ·rw[q] at hb
      exact .inl (.inr hb)
     ·rw[q] at hb
      injection hb with hb
      subst hb
      exact .inr (.inr hg)
 case hd=>
  rintro s xs W rfl ⟨q1,q2,q3,q4⟩ hD
  refine block_norm ?_
  have h5:Sl 13 {a3 with defers:={target:=.collected u.heap.size,args:=#[]}::a3.defers} [(2,.pointer (some ⟨w.heap.size,0,none⟩))] [{target:=.collected u.heap.size,args:=#[]}]:=by
   have h6:=h3.to (l0:=[(2,.pointer (some ⟨w.heap.size,0,none⟩))]) ⟨rfl,trivial⟩
   exact⟨h6.size,by simp[h6.defers],h6.known⟩
  refine wp_seq (rg_wp (sa_r4 h5 rfl (one_load q1 Tryz.underlying24 rfl rfl) fun a6 h6=>wp_ret ?_))
  show LeavesInM Fence.wide 9 Tryz.prog Tryz.f76 a6.tmps _ a6.defers .returning W
  rw[h6.defers]
  refine leaves_ok (ds:=[u.heap.size]) u.heap.size _ (by simp) (fun D hD'=>by rw[List.mem_singleton.1 hD'];exact⟨Nat.le_refl _,hD⟩) fun W' hx=>⟨.slice s.d s.n s.c,results_slot rfl h6 rfl,s,rfl, ?_,Below.ext' q3 hx (by omega)⟩
  exact ZRow.low ⟨q2.1,row_ext q2.2 hx⟩ (by have:=hb1.size;omega)
theorem sorted_any{w:World}{g1:Nat}{z:S3}{zs:List Int}{S:Nat->Prop}(hB:Blk w g1 24 #[.slice z.d zs.length z.c])(hp:PathAt w S z.d zs)(hS: ∀b,S b->b<w.heap.size)(hl:zs.length<=1000000)(hown:OwnAt w):
  Calls Tryz.prog 27 #[.func (.func 51) #[] #[.pointer (some ⟨g1,0,none⟩)]] w fun e w'=> ∃q:S3,e=.returned (.slice q.d q.n q.c)/\(ZRow w' w.heap.size q (sortZ zs)/\Below w.heap.size w w'):=by
 refine calls_ev (vs:=[.func (.func 51) #[] #[.pointer (some ⟨g1,0,none⟩)]]) 9 Tryz.func27 so_body (by kernel_rfl) (by simp) fun a0 h0=> ?_
 unfold soBody
 refine wp_seq (rg_wp (so_r0 h0 fun a1 h1=> ?_))
 refine wp_seq (rg_wp (so_r1 (C0:=fun q w'=>ZRow w' w.heap.size q zs/\Below w.heap.size w w') h1 rfl ?_ fun a2 q u hu h2=> ?_))
 ·refine calls_ev (vs:=[.func (.func 51) #[] #[.pointer (some ⟨g1,0,none⟩)]]) 5 Tryz.func50 sl_body (by kernel_rfl) (by simp) fun b0 k0=> ?_
  unfold slBody
  refine wp_seq (rg_wp (sl_r0 k0 fun b1 k1=> ?_))
  refine wp_seq (rg_wp (sl_r1 k1 rfl (appseq_any hB hp hS hl hown) fun b2 q u hu k2=>wp_ret ?_))
  exact ret1 rfl k2 rfl ⟨q,rfl,hu⟩
 ·obtain⟨hZ,hb⟩:=hu
  refine wp_seq (rg_wp (so_r2 h2 rfl (zsort_any hZ (by omega)) fun a3 v hv h3=> ?_))
  refine wp_seq (rg_wp (so_r3 h3 rfl fun a4 h4=>wp_ret ?_))
  exact ret1 rfl h4 rfl ⟨q,rfl,hv.1,hb.trans (hv.2.bel (fun g hg=>(ARow.block hZ hg).1) hb.size)⟩
end Go.Proofs.YtbjegfpfmnleeaaGreatDoor

namespace Go.Proofs.YtbjegfpfmnleeaaGreatDoor
open Go.RowKit Go.Maps
set_option maxRecDepth 100000
def byV(D:DD)(k:Int):Int:=match D.find? (fun p=>decide (p.1=k)) with
 | some p=>nAt D p.2
 | none=>0
def tM(K:List Int)(D:DD):IM:=K.map fun k=>(k,Value.int .i64 (byV D k))
structure KOk (K:List Int):Prop where
 rise:K.Pairwise (· < ·)
 pos: ∀x,x∈K->1<=x/\x<=1000000
 far:K.length<=1000
structure DOk (K:List Int) (D:DD):Prop where
 nd:(D.map (·.1)).Nodup
 sub: ∀x,x∈D.map (·.1)->x∈K
 qs: ∀p,p∈D->p.2<D.length
theorem DOk.len{K:List Int}{D:DD}(h:DOk K D):D.length<=K.length:=by
 have:=nodup_len _ K h.nd h.sub
 simpa using this
theorem DOk.nAt_in{K:List Int}{D:DD}(h:DOk K D){q:Nat}(hq:q<D.length):nAt D q∈K:=h.sub _ (mem_nAt.2 ⟨q,hq,rfl⟩)
theorem DOk.nil(K:List Int):DOk K []:=⟨by simp,by simp,by simp⟩
theorem DOk.cm{K:List Int}{D:DD}(h:DOk K D)(n:Int){q:Nat}(hq:q<=D.length):DOk K (cm K D n q):=by
 unfold Go.Proofs.YtbjegfpfmnleeaaGreatDoor.cm
 by_cases hc:n∈K/\n∉D.map (·.1)
 ·rw[if_pos hc]
  refine⟨?_, ?_, ?_⟩
  ·rw[List.map_append,List.nodup_append]
   refine⟨h.nd,by simp, ?_⟩
   intro a ha b hb e
   simp only[List.map_cons,List.map_nil,List.mem_singleton] at hb
   subst e hb
   exact hc.2 ha
  ·intro x hx
   rw[List.map_append,List.mem_append] at hx
   rcases hx with hx | hx
   ·exact h.sub x hx
   ·simp only[List.map_cons,List.map_nil,List.mem_singleton] at hx
    subst hx
    exact hc.1
  ·intro p hp
   rw[List.length_append,List.length_singleton]
   rcases List.mem_append.1 hp with hp | hp
   ·have:=h.qs p hp
    omega
   ·rw[List.mem_singleton.1 hp]
    show q<_
    omega
 ·rw[if_neg hc]
  exact h
theorem byV_in{K:List Int}{D:DD}(hK:KOk K)(h:DOk K D){k:Int}(hk:k∈D.map (·.1)):byV D k≠0:=by
 unfold byV
 cases hf:D.find? (fun p=>decide (p.1=k)) with
 | none=>
  obtain⟨p,hp,rfl⟩:=List.mem_map.1 hk
  have:=List.find?_eq_none.1 hf p hp
  simp at this
 | some p=>
  have:=hK.pos _ (h.nAt_in (h.qs p (List.mem_of_find?_eq_some hf)))
  show nAt D p.2≠0
  omega
theorem byV_out{D:DD}{k:Int}(hk:k∉D.map (·.1)):byV D k=0:=by
 unfold byV
 rw[List.find?_eq_none.2 fun p hp=>by
  have:p.1≠k:=fun e=>hk (List.mem_map.2 ⟨p,hp,e⟩)
  simpa using this]
theorem byV_app{D:DD}(hq: ∀p,p∈D->p.2<D.length){n:Int}{q:Nat}(hn:n∉D.map (·.1))(k:Int):byV (D++[(n,q)]) k=if k=n then nAt (D++[(n,q)]) q else byV D k:=by
 unfold byV
 rw[List.find?_append]
 by_cases hk:k=n
 ·subst hk
  rw[if_pos rfl,List.find?_eq_none.2 fun p hp=>by
   have:p.1≠k:=fun e=>hn (List.mem_map.2 ⟨p,hp,e⟩)
   simpa using this]
  simp
 ·rw[if_neg hk]
  cases hf:D.find? (fun p=>decide (p.1=k)) with
  | none=>simp[Ne.symm hk]
  | some p=>exact nAt_app (hq p (List.mem_of_find?_eq_some hf)) _
theorem tm_get(K:List Int)(D:DD)(n:Int):imGet n (tM K D)=if n∈K then some (.int .i64 (byV D n)) else none:=by
 unfold imGet tM
 rw[List.find?_map]
 by_cases hn:n∈K
 ·rw[if_pos hn]
  cases hf:K.find? ((fun p:Int×Value=>decide (p.1=n))∘fun k=>(k,Value.int .i64 (byV D k))) with
  | none=>
   have:=List.find?_eq_none.1 hf n hn
   simp at this
  | some k=>
   have:=List.find?_some hf
   have:k=n:=by simpa using this
   subst this
   rfl
 ·rw[if_neg hn,List.find?_eq_none.2 fun k hk=>by
   have:k≠n:=fun e=>hn (e ▸ hk)
   simpa using this]
  rfl
theorem im_del_out{n:Int}{M:IM}(h: ∀p,p∈M->p.1≠n):imDel n M=M:=List.filter_eq_self.2 fun p hp=>by simp[h p hp]
theorem im_put_map(f:Int->Value)(n:Int)(v:Value): ∀K:List Int,K.Pairwise (· < ·)->n∈K->imPut n v (K.map fun k=>(k,f k))=K.map fun k=>(k,if k=n then v else f k)
 | [],_,h=>by cases h
 | k::r,hp,hn=>by
  have hp':=List.pairwise_cons.1 hp
  by_cases hk:k=n
  ·subst hk
   unfold imPut imDel
   rw[List.map_cons,List.filter_cons_of_neg (by simp)]
   have e:(r.map fun x=>(x,f x)).filter (fun p=> !decide (p.1=k))=r.map fun x=>(x,f x):=im_del_out fun p hp2=>by
    obtain⟨x,hx,rfl⟩:=List.mem_map.1 hp2
    have:=hp'.1 x hx
    show x≠k
    omega
   rw[e,List.map_cons,if_pos rfl]
   have e2:(r.map fun x=>(x,if x=k then v else f x))=r.map fun x=>(x,f x):=List.map_congr_left fun x hx=>by
    have:=hp'.1 x hx
    rw[if_neg (by omega)]
   rw[e2]
   cases r with
   | nil=>rfl
   | cons y t=>
    have:=hp'.1 y (by simp)
    simp only[List.map_cons,imIns]
    rw[if_pos this]
  ·have hn':n∈r:=by
    rcases List.mem_cons.1 hn with h | h
    ·exact absurd h.symm hk
    ·exact h
   have hlt:=hp'.1 n hn'
   have ih:=im_put_map f n v r hp'.2 hn'
   unfold imPut imDel at ih ⊢
   rw[List.map_cons,List.filter_cons_of_pos (by simp[hk]),imIns,if_neg (by show ¬n<k;omega),ih,List.map_cons,if_neg hk]
theorem im_put_end{n:Int}{M:IM}(h: ∀p,p∈M->p.1<n)(v:Value):imPut n v M=M++[(n,v)]:=by
 unfold imPut
 rw[im_del_out fun p hp=>by have:=h p hp;omega]
 exact im_ins M n v h
theorem tm_cm{K:List Int}{D:DD}(hK:KOk K)(h:DOk K D){n:Int}{q:Nat}(hn:n∈K)(hd:n∉D.map (·.1)):imPut n (.int .i64 (nAt (D++[(n,q)]) q)) (tM K D)=tM K (D++[(n,q)]):=by
 unfold tM
 rw[im_put_map (fun k=>Value.int .i64 (byV D k)) n _ K hK.rise hn]
 apply List.map_congr_left
 intro k _
 rw[byV_app h.qs hd]
 by_cases hk:k=n<;>simp[hk]
theorem MapI.no_cells{w:World}{b n:Nat}{M:IM}{t:TypeId}{cs:Array Value}(h:MapI w b n M)(h1:Blk w b t cs):False:=by
 obtain⟨es,clock,hb,_⟩:=h
 unfold Blk at h1
 rw[hb] at h1
 cases h1
theorem Blk.same_t{w:World}{g:Nat}{t t':TypeId}{cs cs':Array Value}(h:Blk w g t cs)(h':Blk w g t' cs'):t=t':=by
 have h:w.heap[g]? =some (.cells cs t (0,0)):=h
 have h':w.heap[g]? =some (.cells cs' t' (0,0)):=h'
 rw[h] at h'
 injection h' with h'
 injection h' with _ h'
theorem ZRow.cells{w:World}{B:Nat}{s:S3}{l:List Int}(h:ZRow w B s l){g:Nat}(hg:s.v.ownBlock=some g): ∃cs,Blk w g 3 cs:=by
 rcases ARow.cases h with⟨e,_⟩ | ⟨g',cs,_,e2,_,e4,_⟩
 ·rw[e] at hg
  cases hg
 ·rw[e2] at hg
  injection hg with hg
  subst hg
  exact⟨cs,e4⟩
abbrev rchT:TypeId:=69
structure Rch (B:Nat) (w:World) (rp gh bt:Nat) (K:List Int) (D:DD) (s:S3):Prop where
 blk:Blk w rp rchT #[.pointer (some ⟨gh,0,none⟩),.map (some bt),.slice s.d s.n s.c]
 mp:MapI w bt (K.length+D.length) (tM K D)
 row:ZRow w B s (D.map (·.1))
 lo:B<=rp/\B<=bt
 d:DOk K D
def RchO(rp bt:Nat)(s:S3)(b:Nat):Prop:=b=rp\/b=bt\/s.v.ownBlock=some b
section
variable {B:Nat} {w:World} {rp gh bt:Nat} {K:List Int} {D:DD} {s:S3}
theorem Rch.ne(h:Rch B w rp gh bt K D s):rp≠bt/\s.v.ownBlock≠some rp/\s.v.ownBlock≠some bt:=by
 refine⟨fun e=> ?_,fun e=> ?_,fun e=> ?_⟩
 ·have:=h.blk
  rw[e] at this
  exact h.mp.no_cells this
 ·obtain⟨cs,hc⟩:=ZRow.cells h.row e
  have:=Blk.same_t hc h.blk
  revert this
  decide
 ·obtain⟨cs,hc⟩:=ZRow.cells h.row e
  exact h.mp.no_cells hc
theorem Rch.lim(h:Rch B w rp gh bt K D s){b:Nat}(hb:RchO rp bt s b):B<=b/\b<w.heap.size:=by
 rcases hb with rfl | rfl | hb
 ·exact⟨h.lo.1,h.blk.lt⟩
 ·exact⟨h.lo.2,h.mp.lt⟩
 ·exact ARow.block h.row hb
theorem Rch.keep{w':World}(h:Rch B w rp gh bt K D s)(hk: ∀b,RchO rp bt s b->w'.heap[b]? =w.heap[b]?):Rch B w' rp gh bt K D s:=
 ⟨(hk _ (.inl rfl)).trans h.blk,h.mp.keep (hk _ (.inr (.inl rfl))),ARow.keep h.row fun g hg=>hk _ (.inr (.inr hg)),h.lo,h.d⟩
theorem Rch.old{w':World}(h:Rch B w rp gh bt K D s)(hb:Below w.heap.size w w'):Rch B w' rp gh bt K D s:=h.keep fun b hO=>hb.block b (h.lim hO).2
theorem Rch.lm(h:Rch B w rp gh bt K D s):Lds Tryz.prog 67 (.pointer (some ⟨rp,1,none⟩)) (.map (some bt)) w:=one_load h.blk Tryz.underlying67 rfl rfl
theorem Rch.ls(h:Rch B w rp gh bt K D s):Lds Tryz.prog 24 (.pointer (some ⟨rp,2,none⟩)) (.slice s.d s.n s.c) w:=one_load h.blk Tryz.underlying24 rfl rfl
structure RchQ (B:Nat) (w w':World) (rp gh bt:Nat) (K:List Int) (D':DD) (s:S3) (s':S3):Prop where
 r:Rch B w' rp gh bt K D' s'
 m:Moved (RchO rp bt s) w w'
 o:s'.v.ownBlock=s.v.ownBlock\/∃g,s'.v.ownBlock=some g/\w.heap.size<=g
set_option maxHeartbeats 1000000 in
theorem comes_any(hK:KOk K)(h:Rch B w rp gh bt K D s)(hB:B<=w.heap.size){n bz:Int}(hn: -9223372036854775808<=n/\n<=9223372036854775807){q:Nat}(hq:q<=D.length)(hbz:n∈K->n∉D.map (·.1)->bz=nAt (D++[(n,q)]) q):
  Calls Tryz.prog 53 #[.pointer (some ⟨rp,0,none⟩),.int .i64 n,.int .i64 bz] w fun e w'=>e=.returned (.tuple #[])/\∃s',RchQ B w w' rp gh bt K (cm K D n q) s s':=by
 refine calls_ev (vs:=[.pointer (some ⟨rp,0,none⟩),.int .i64 n,.int .i64 bz]) 38 Tryz.func53 cc_body (by kernel_rfl) (by simp) fun a0 h0=> ?_
 unfold ccBody
 have hlk:=h.mp.look2 (z:=.int .i64 0) Tryz.underlying67 (fun _=>Tryz.zeroValue3 _) hn
 rw[tm_get] at hlk
 have same:cm K D n q=D->∃s',RchQ B w w rp gh bt K (cm K D n q) s s':=fun e=>⟨s,by rw[e];exact h,.of_below (Below.refl _ _),.inl rfl⟩
 by_cases hk:n∈K
 ·rw[if_pos hk] at hlk
  refine wp_seq (rg_wp (cc_r0 (was:=byV D n) (ok:=true) h0 rfl rfl h.lm hlk fun a1 h1=> ?_))
  by_cases hd:n∈D.map (·.1)
  ·refine wp_seq (rg_wp (cc_r1t (b20:=false) h1 rfl rfl (decide_eq_false (byV_in hK h.d hd)) fun a2 h2=>wpc_off (h2.look 21 rfl) ?_))
   exact bodyPost_end (results_none rfl _ _ _) h2.defers ⟨rfl,same (by unfold Go.Proofs.YtbjegfpfmnleeaaGreatDoor.cm;rw[if_neg (fun c=>c.2 hd)])⟩
  ·refine wp_seq (rg_wp (cc_r1t (b20:=true) h1 rfl rfl (decide_eq_true (byV_out hd)) fun a2 h2=>wp_cond_true (h2.look 21 rfl) ?_))
   have hlen:=h.d.len
   have hfar:=hK.far
   obtain⟨w1,hr,hm,ht⟩:=h.mp.store Tryz.underlying67 (by unfold maxLen;omega) hn (.int .i64 bz)
   obtain⟨n1,n2,n3⟩:=h.ne
   have hM1:Moved (fun b=>b=bt) w w1:=Moved.of_turned ht rfl
   have hz1:=hM1.size
   rw[hbz hk hd,tm_cm hK h.d hk hd] at hm
   have hb1:Blk w1 rp rchT #[.pointer (some ⟨gh,0,none⟩),.map (some bt),.slice s.d s.n s.c]:=(hM1.block _ h.blk.lt n1).trans h.blk
   have hZ1:ZRow w1 B s (D.map (·.1)):=ARow.keep h.row fun g hg=>hM1.block g (ARow.block h.row hg).2 fun e=>n3 (e ▸ hg)
   refine wp_seq (rg_wp (cc_r2 h2 rfl rfl rfl h.lm hr fun a3 h3=> ?_))
   have hrl:=h.blk.lt
   refine wpl (rg_wp (cc_r3 (C0:=fun _ t v=>ZRow v B t (D.map (·.1)++[n])/\Moved (fun b=>s.v.ownBlock=some b) w1 v/\(t.v.ownBlock=s.v.ownBlock\/∃g,t.v.ownBlock=some g/\w1.heap.size<=g)) h3 rfl rfl (one_load hb1 Tryz.underlying24 rfl rfl) (fun ty=> ?_) (fun t v hv=>one_store ((hv.2.1.block _ (by omega) n2).trans hb1) (by kernel_rfl) (by show 2<3;omega) rfl) fun a4 t v hv h4=> ?_))
   ·obtain⟨s',v,r1,r2,r3,r4⟩:=ZRow.app hZ1 (by simp;omega) (by omega) n ty
    exact⟨s',v,r1,r2,r3,r4.imp_right fun e=>⟨_,e,by omega⟩⟩
   ·obtain⟨hZ,hM,ho⟩:=hv
    have hB1:Blk v rp rchT #[.pointer (some ⟨gh,0,none⟩),.map (some bt),.slice s.d s.n s.c]:=(hM.block _ (by omega) n2).trans hb1
    have hrb:t.v.ownBlock≠some rp:=fun e=>by
     obtain⟨cs,hc⟩:=ZRow.cells hZ e
     have:=Blk.same_t hc hB1
     revert this
     decide
    have hcm:cm K D n q=D++[(n,q)]:=by unfold Go.Proofs.YtbjegfpfmnleeaaGreatDoor.cm;rw[if_pos ⟨hk,hd⟩]
    have hMW:Moved (RchO rp bt s) w (v.setCells rp 2 [.slice t.d t.n t.c]):=((hM1.more fun b hb=>.inr (.inl hb)).trans (hM.more fun b hb=>.inl (.inr (.inr hb)))).set (.inl (.inl rfl)) _ _
    refine bodyPost_end (results_none rfl _ _ _) h4.defers ⟨rfl,t,⟨Blk.set_ hB1 2 _, ?_, ?_,h.lo,h.d.cm n hq⟩,hMW, ?_⟩
    ·rw[hcm,List.length_append]
     exact(hm.keep (hM.block _ hm.lt fun e=>n3 e)).keep (setCells_other _ _ _ (Ne.symm n1))
    ·rw[hcm,List.map_append]
     exact ARow.keep hZ fun g hg=>setCells_other _ _ _ fun e=>hrb (e ▸ hg)
    ·rcases ho with e | ⟨g,e,hg⟩
     ·exact .inl e
     ·exact .inr ⟨g,e,by omega⟩
 ·rw[if_neg hk] at hlk
  refine wp_seq (rg_wp (cc_r0 (was:=0) (ok:=false) h0 rfl rfl h.lm hlk fun a1 h1=> ?_))
  refine wp_seq (rg_wp (cc_r1f h1 rfl fun a2 h2=>wpc_off (h2.look 21 rfl) ?_))
  exact bodyPost_end (results_none rfl _ _ _) h2.defers ⟨rfl,same (by unfold Go.Proofs.YtbjegfpfmnleeaaGreatDoor.cm;rw[if_neg (fun c=>hk c.1)])⟩
end
end Go.Proofs.YtbjegfpfmnleeaaGreatDoor
