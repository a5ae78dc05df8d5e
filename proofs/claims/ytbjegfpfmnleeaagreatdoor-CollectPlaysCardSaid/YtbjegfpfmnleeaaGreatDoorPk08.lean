/-
   Written by an AI agent.
-/
import Derived.Test.YtbjegfpfmnleeaaGreatDoorPk07
import Derived.Lib.Bytealg
import Derived.Stop.Asserts
import Derived.Deep.CutBlock
namespace Go.Proofs.YtbjegfpfmnleeaaGreatDoor
open Go.RowKit Go.Sort
def Sk(a b:Int):Int:=IntKind.u64.wrap (bits .xor .u64 a b*1099511628211)
theorem Ak(a b:Int)(w:World):Calls Tryz.prog 140 #[.int .u64 a,.int .u64 b] w fun e w'=>e=.returned (.int .u64 (Sk a b))/\w=w':=Ac7 a b w
theorem Ac9(a b:Int)(w:World):Calls Tryz.prog 140 #[.int .u64 a,.int .u64 b] w fun e w'=>e=.returned (.int .u64 (Sk a b))/\Below w.heap.size w w':=(Ak a b w).mono fun _e _w' ⟨h1,h2⟩=>⟨h1,h2 ▸ Below.refl _ _⟩
def Lt(n:Int):Int:=IntKind.u64.wrap n
def Cd0(l:List Int)(a:Int):Int:=match l with | []=>a | x::r=>Cd0 r (Sk a (Lt x))
def Dm0(l:List UInt8)(a:Int):Int:=match l with | []=>a | x::r=>Dm0 r (Sk a (x.toNat:Int))
def Dm1:Int:=14695981039346656037
def Az(h:Hd):List UInt8:=h.type.data.toList++32::h.s.data.toList
def Lu(h:Hd):Int:=Dm0 (Az h) (Sk Dm1 (Lt h.kind))
def Eg(h:Hd):Int:=if(!Ih h.f.toNat 0&& !Ep h.f.toNat)=true then Sk (Lu h) h.f else Lu h
def Ie(h:Hd):Int:=Cd0 h.path (Sk (Sk (Eg h) (Lt h.n)) (Lt h.obj))
def Eh:Fo->Int->Int
 | .nil,a=>a
 | .cons h k r,a=>Eh r (Sk a (Eh k (Ie h)))
def T6(h:Hd)(k:Fo):Int:=Eh k (Ie h)
def Aq9(h:Hd)(k:Fo):Prop:= ∀(w:World) (S:Nat->Prop) (pa:Option Addr) (pc:Nat) (ia:Option Addr) (ic:Nat),DatAt w S h k pa pc ia ic->
 Calls Tryz.prog 129 #[.agg (h.cells pa pc ia k.len ic)] w fun e w'=>e=.returned (.int .u64 (T6 h k))/\Below w.heap.size w w'
theorem Ad0(l:List UInt8)(j:Nat)(b:UInt8)(a:Int)(h:l[j]? =some b):Dm0 (l.drop j) a=Dm0 (l.drop (j+1)) (Sk a (b.toNat:Int)):=by
 have hl:j<l.length:=(List.getElem?_eq_some_iff.1 h).1
 rw[List.drop_eq_getElem_cons hl,(List.getElem?_eq_some_iff.1 h).2];rfl
theorem Ad1(l:List Int)(j:Nat)(b:Int)(a:Int)(h:l[j]? =some b):Cd0 (l.drop j) a=Cd0 (l.drop (j+1)) (Sk a (Lt b)):=by
 have hl:j<l.length:=(List.getElem?_eq_some_iff.1 h).1
 rw[List.drop_eq_getElem_cons hl,(List.getElem?_eq_some_iff.1 h).2];rfl
set_option maxRecDepth 100000 in
set_option maxHeartbeats 4000000 in
theorem Qb(h:Hd)(k:Fo)(ho:h.ok)(_hk:k.ok)(hkl:k.len<=1034834473170)(ih: ∀i a b,k.get i=some (a,b)->Aq9 a b):Aq9 h k:=by
 intro w S pa pc ia ic hd
 unfold Hd.cells
 have hts:=ho.type
 have hss:=ho.s
 go_enter Tryz.func129,Tryz.ntmps129
 go_upto_region 0 with fail
 go_cut [0,1] (fun _ t1 wx=>t1=.pointer (some ⟨w.heap.size,0,none⟩)/\Blk wx w.heap.size 53 (h.cells pa pc ia k.len ic)/\Below w.heap.size w wx)
 case first=>
  go_wp2_with fail
  go_meet
  case rel=>exact⟨rfl,Blk.new _ _ _,bz⟩
 case rest=>
 obtain⟨rfl,hA,hbw⟩:=hcut
 obtain⟨w0,rfl⟩: ∃w0:World,w0=wc:=⟨_,rfl⟩
 obtain⟨c0,c1,c2,c3,c4,c5,c6,c7,c8,c9,c10⟩:=(CellsAt.of_blk hA).box
 go_wp2_with fail
 refine(Ak _ _ _).mono ?_
 rintro e w1 ⟨rfl,rfl⟩
 obtain⟨C,wb,hcv,hbb,hcell⟩:=Ps w0 (h.type++⟨#[32]⟩++h.s) w0.heap.size rfl
 have hbl:(h.type++⟨#[32]⟩++h.s).data.toList=Az h:=by simp[Az]
 rw[hbl] at hcell
 have hbw2:Below w.heap.size w wb:=A7 hbw hbb
 have hAb:=hA.below hbb hA.lt
 have hdb:=hd.below hbw2 (fun b _ h=>h)
 have hbn:(Az h).length=h.type.size+1+h.s.size:=by simp[Az];omega
 have HBN:=Lib.hid hbn
 clear hbn hbl
 have hlen1:h.type.size+1+h.s.size<=9223372036854775807:=by omega
 go_upto_region 3 with fail
 clear c0 c1 c2 c3 c4 c5 c6 c7 c8 c9 c10 hcv hbb hA
 go_loopg [3,23] (h.type.size+1+h.s.size) (fun g a i wr=> ∃(j:Nat) (x:Int),j<=h.type.size+1+h.s.size/\a=.int .u64 x/\i=.int .i64 j/\g=h.type.size+1+h.s.size-j/\wb=wr/\Hid (Lu h=Dm0 ((Az h).drop j) x))
 case atStart=>exact⟨0,_,Zo,rfl,rfl,Zo,rfl,by unfold Hid Lu Lt Dm1;simp⟩
 case round=>
 obtain⟨j,x,hj,rfl,rfl,rfl,rfl,HN⟩:=hrel
 by_cases hlt:j<h.type.size+1+h.s.size
 ·obtain⟨b,hb⟩: ∃b,(Az h)[j]? =some b:=⟨_,List.getElem?_eq_getElem (by rw[HBN.out];exact hlt)⟩
  have hc:=hcell j b hb
  have HX:=Lib.hid hb
  clear hcell hb
  have hx0:(0:Int)<=(b.toNat:Int):=by omega
  have hx1:(b.toNat:Int)<=255:=by have:=b.toNat_lt;omega
  go_wp2_with (go_at_call 140;refine(Ak _ _ _).mono ?_;rintro e w1 ⟨rfl,rfl⟩)
  go_roundg (h.type.size+1+h.s.size-(j+1))
  case measure=>omega
  case rel=>exact⟨j+1,_,Zo,rfl,by go_num,rfl,rfl,by unfold Hid;rw[HN.out,Ad0 _ _ _ _ HX.out]⟩
 have hjn:j=h.type.size+1+h.s.size:=by omega
 have hx:x=Lu h:=by rw[HN.out,List.drop_of_length_le (by rw[HBN.out];omega)];rfl
 subst hx
 clear hcell hlt HN
 have hle2:((h.type.size:Int)+1+(h.s.size:Int))<=(j:Int):=by omega
 obtain⟨c0,c1,c2,c3,c4,c5,c6,c7,c8,c9,c10⟩:=(CellsAt.of_blk hAb).box
 have hff:=Br h.f
 have hfs:=Nm h.f.toNat
 have hfe:=feq h.f.toNat h.f.toNat
 have hfn:=fne h.f.toNat 0
 rw[hfs] at hfe
 clear hfs hjn
 go_upto_region 8 with fail
 go_cut [41] (fun t wx=>t=.bool (!Ih h.f.toNat 0&& !Ep h.f.toNat)/\wb=wx)
 case first=>
  cases e1:Ih h.f.toNat 0<;>rw[e1] at hfn<;>cases e2:Ep h.f.toNat<;>rw[e2] at hfe
  all_goals go_wp2_with fail
  all_goals go_meet
  all_goals (refine⟨?_,rfl⟩;simp[e1,e2])
 case rest=>
 obtain⟨rfl,rfl⟩:=hcut
 go_upto_if 41 with fail
 go_cut [3] (fun t wx=>t=.int .u64 (Eg h)/\wb=wx)
 case first=>
  cases e0:(!Ih h.f.toNat 0&& !Ep h.f.toNat)
  ·go_wp2_with fail
   go_meet
   case rel=>exact⟨by unfold Eg;rw[e0,if_neg (by simp)],rfl⟩
  ·go_wp2_with (go_at_call 140;refine(Ak _ _ _).mono ?_;rintro e w1 ⟨rfl,rfl⟩)
   go_meet
   case rel=>exact⟨by unfold Eg;rw[e0,if_pos rfl],rfl⟩
 case rest=>
 obtain⟨rfl,rfl⟩:=hcut
 go_upto_region 10 with fail
 go_cut [3] (fun t wx=>t=.int .u64 (Sk (Sk (Eg h) (Lt h.n)) (Lt h.obj))/\Below wb.heap.size wb wx)
 case first=>
  clear c0 c1 c2 c3 c4 c5 c6 c7 c8 c9 c10
  obtain⟨c0,c1,c2,c3,c4,c5,c6,c7,c8,c9,c10⟩:=(CellsAt.of_blk hAb).boxrg
  refine J0 Zk Zk ?_
  repeat (quiet_step ((go_at_call 140;exact Calls.regrown_of (Ac9 _ _ _))))
  refine wpQuiet_nil ?_
  intro w2 hb2
  go_wp2_with fail
  go_meet
  case rel=>exact⟨rfl,hb2⟩
 case rest=>
 obtain⟨rfl,hbq⟩:=hcut
 obtain⟨w2,rfl⟩: ∃w2:World,w2=wc:=⟨_,rfl⟩
 have hb3:Below w.heap.size w w2:=A7 hbw2 hbq
 have hA2:=hAb.below hbq hAb.lt
 have hd2:=hd.below hb3 (fun b _ h=>h)
 clear c0 c1 c2 c3 c4 c5 c6 c7 c8 c9 c10 hff hfe hfn hAb hdb hbw2 hbq hle2 HBN hlen1
 obtain⟨c0,c1,c2,c3,c4,c5,c6,c7,c8,c9,c10⟩:=(CellsAt.of_blk hA2).box
 have hpl:=ho.path
 go_upto_region 12 with fail
 go_loopg [3,60] h.path.length (fun g a i wr=> ∃(j:Nat) (x:Int),j<=h.path.length/\a=.int .u64 x/\i=.int .i64 j/\g=h.path.length-j/\w2=wr/\Hid (Ie h=Cd0 (h.path.drop j) x))
 case atStart=>exact⟨0,_,Zo,rfl,rfl,Zo,rfl,rfl⟩
 case round=>
 obtain⟨j,x,hj,rfl,rfl,rfl,rfl,HN⟩:=hrel
 by_cases hlt:j<h.path.length
 ·obtain⟨b,hb⟩: ∃b,h.path[j]? =some b:=⟨_,List.getElem?_eq_getElem hlt⟩
  obtain⟨pb,po,rfl,_,hcc⟩:=hd2.path.get hb
  have HDr:=Lib.hid (Ad1 h.path j b x hb)
  have hj1:(j:Int)<(h.path.length:Int):=by omega
  clear hb
  go_wp2_with (go_at_call 140;refine(Ak _ _ _).mono ?_;rintro e w1 ⟨rfl,rfl⟩)
  go_roundg (h.path.length-(j+1))
  case measure=>omega
  case rel=>exact⟨j+1,_,Zo,rfl,by go_num,rfl,rfl,by unfold Hid;rw[HN.out,HDr.out];rfl⟩
 have hjn2:(h.path.length:Int)<=(j:Int):=by omega
 have hx:x=Ie h:=by rw[HN.out,List.drop_of_length_le Zo];rfl
 subst hx
 clear HN hlt
 go_upto_region 16 with fail
 go_cut [61,69,70,71,72] (fun _ _ t70 t71 t72 wx=>t70=.slice ia k.len ic/\t71=.int .i64 k.len/\t72=.int .i64 0/\w2=wx)
 case first=>
  go_wp2_with fail
  go_meet
  case rel=>exact⟨rfl,rfl,rfl,rfl⟩
 case rest=>
 obtain⟨rfl,rfl,rfl,rfl⟩:=hcut
 go_upto_region 17 with fail
 clear hjn2 c0 c1 c2 c3 c4 c5 c6 c7 c8 c9 c10
 go_loopg [3,72] k.len (fun g a i wr=> ∃(j:Nat) (x:Int),j<=k.len/\a=.int .u64 x/\i=.int .i64 j/\g=k.len-j/\Below w.heap.size w wr/\Hid (T6 h k=Eh (k.drop j) x))
 case atStart=>exact⟨0,_,Zo,rfl,rfl,Zo,hb3,by unfold Hid T6;simp⟩
 case round=>
 obtain⟨j,x,hj,rfl,rfl,rfl,hbr,HN⟩:=hrel
 by_cases hlt:j<k.len
 ·obtain⟨h',k',hget⟩:=Fo.get_lt k j hlt
  have hks:SlAt _ S ia k:=(hd.below hbr (fun b _ h=>h)).kids
  obtain⟨b,o,rfl,hSb,pa',pc',ia',ic',hcs,hda⟩:=hks.get hget
  obtain⟨d0,d1,d2,d3,d4,d5,d6,d7,d8,d9,d10⟩:=hcs.eleven
  have hih:=ih j h' k' hget (wr.alloc (.cells (h'.cells pa' pc' ia' k'.len ic') 53)) S pa' pc' ia' ic' (hda.keep (fun b _ h=>Below.heap_alloc _ _ _ h) (fun _ h _=>h))
  unfold Hd.cells at hih
  have HI:=Lib.hid hih
  have HDr:=Lib.hid (Fo.drop_get k j h' k' hget)
  clear hih hget hcs hda hks hpl
  go_wp2_with fail
  refine HI.out.mono ?_
  rintro e w4 ⟨rfl,hb4⟩
  have hbr4:Below w.heap.size w w4:=A7 (B2 hbr _) hb4
  clear HI d0 d1 d2 d3 d4 d5 d6 d7 d8 d9 d10 hb4
  go_wp2_with (go_at_call 140;refine(Ak _ _ _).mono ?_;rintro e w1 ⟨rfl,rfl⟩)
  go_roundg (k.len-(j+1))
  case measure=>omega
  case rel=>exact⟨j+1,_,Zo,rfl,by go_num,rfl,hbr4,by unfold Hid;rw[HN.out,HDr.out];rfl⟩
 have hjk:j=k.len:=by omega
 subst hjk
 have hx:T6 h k=x:=by rw[HN.out,Fo.drop_len k _ (Nat.le_refl _)];rfl
 clear HN hlt
 go_wp2_with fail
 go_ret
 rw[hx]
 exact⟨rfl,hbr⟩
theorem Ig: ∀(f:Fo),f.ok->∀i h k,f.get i=some (h,k)->Aq9 h k
 | .nil,_,i,h,k,e=>by simp[Fo.get] at e
 | .cons h' k' r,o,0,h,k,e=>by
  simp only[Fo.get,Option.some.injEq,Prod.mk.injEq] at e
  obtain⟨rfl,rfl⟩:=e
  exact Qb _ _ o.1 o.2.1 o.2.2.2 (Ig k' o.2.1)
 | .cons h' k' r,o,i+1,h,k,e=>Ig r o.2.2.1 i h k e
theorem U5(h:Hd)(k:Fo)(ho:h.ok)(hk:k.ok)(hl:k.len<=1034834473170):Aq9 h k:=Qb h k ho hk hl (Ig k hk)
section
variable (h:Hd) (k:Fo) (ho:h.ok) (hk:k.ok) (hl:k.len<=1034834473170) (w:World) (S:Nat->Prop) (pa:Option Addr) (pc:Nat) (ia:Option Addr) (ic:Nat) (hd:DatAt w S h k pa pc ia ic)
include ho
include hk hl hd
theorem Hx:Calls Tryz.prog 181 #[.agg (h.cells pa pc ia k.len ic)] w fun e w'=>e=.returned (.int .u64 (T6 h k))/\Below w.heap.size w w':=by
 have he:=U5 h k ho hk hl (w.alloc (.cells (h.cells pa pc ia k.len ic) 230)) S pa pc ia ic (hd.keep (fun b _ h=>Below.heap_alloc _ _ _ h) (fun _ h _=>h))
 unfold Hd.cells at he ⊢
 have HE:=Lib.hid he
 clear he
 go_enter Tryz.func181,Tryz.ntmps181
 go_wp2_with fail
 refine HE.out.mono ?_
 rintro e w1 ⟨rfl,hb1⟩
 go_wp2_with fail
 go_ret
 exact⟨rfl,bz⟩
theorem Ex:Calls Tryz.prog 182 #[.agg (h.cells pa pc ia k.len ic)] w fun e w'=>e=.returned (.int .u64 (T6 h k))/\Below w.heap.size w w':=by
 have he:=U5 h k ho hk hl (w.alloc (.cells (h.cells pa pc ia k.len ic) 231)) S pa pc ia ic (hd.keep (fun b _ h=>Below.heap_alloc _ _ _ h) (fun _ h _=>h))
 unfold Hd.cells at he ⊢
 have HE:=Lib.hid he
 clear he
 go_enter Tryz.func182,Tryz.ntmps182
 go_wp2_with fail
 refine HE.out.mono ?_
 rintro e w1 ⟨rfl,hb1⟩
 go_wp2_with fail
 go_ret
 exact⟨rfl,bz⟩
theorem Ey:Calls Tryz.prog 183 #[.agg (h.cells pa pc ia k.len ic)] w fun e w'=>e=.returned (.int .u64 (T6 h k))/\Below w.heap.size w w':=by
 have he:=U5 h k ho hk hl (w.alloc (.cells (h.cells pa pc ia k.len ic) 232)) S pa pc ia ic (hd.keep (fun b _ h=>Below.heap_alloc _ _ _ h) (fun _ h _=>h))
 unfold Hd.cells at he ⊢
 have HE:=Lib.hid he
 clear he
 go_enter Tryz.func183,Tryz.ntmps183
 go_wp2_with fail
 refine HE.out.mono ?_
 rintro e w1 ⟨rfl,hb1⟩
 go_wp2_with fail
 go_ret
 exact⟨rfl,bz⟩
theorem Hy:Calls Tryz.prog 186 #[.agg (h.cells pa pc ia k.len ic)] w fun e w'=>e=.returned (.int .u64 (T6 h k))/\Below w.heap.size w w':=by
 have he:=U5 h k ho hk hl (w.alloc (.cells (h.cells pa pc ia k.len ic) 235)) S pa pc ia ic (hd.keep (fun b _ h=>Below.heap_alloc _ _ _ h) (fun _ h _=>h))
 unfold Hd.cells at he ⊢
 have HE:=Lib.hid he
 clear he
 go_enter Tryz.func186,Tryz.ntmps186
 go_wp2_with fail
 refine HE.out.mono ?_
 rintro e w1 ⟨rfl,hb1⟩
 go_wp2_with fail
 go_ret
 exact⟨rfl,bz⟩
theorem Hz:Calls Tryz.prog 187 #[.agg (h.cells pa pc ia k.len ic)] w fun e w'=>e=.returned (.int .u64 (T6 h k))/\Below w.heap.size w w':=by
 have he:=U5 h k ho hk hl (w.alloc (.cells (h.cells pa pc ia k.len ic) 238)) S pa pc ia ic (hd.keep (fun b _ h=>Below.heap_alloc _ _ _ h) (fun _ h _=>h))
 unfold Hd.cells at he ⊢
 have HE:=Lib.hid he
 clear he
 go_enter Tryz.func187,Tryz.ntmps187
 go_wp2_with fail
 refine HE.out.mono ?_
 rintro e w1 ⟨rfl,hb1⟩
 go_wp2_with fail
 go_ret
 exact⟨rfl,bz⟩
end
section
variable (h:Hd) (k:Nat) (w:World) (pa:Option Addr) (pc:Nat) (ia:Option Addr) (ic:Nat)
end
theorem DatAt.rg{w:World}{S:Nat->Prop}{h:Hd}{k:Fo}{pa:Option Addr}{pc:Nat}{ia:Option Addr}{ic:Nat}(d:DatAt w S h k pa pc ia ic)(n:Nat)(os:Array Obj):DatAt (grow (redrawn w n) os) S h k pa pc ia ic:=
 d.below (below_regrown w n os) (fun _ _ h=>h)
theorem OwnAt.rg{w:World}(h:OwnAt w)(n:Nat)(os:Array Obj):OwnAt (grow (redrawn w n) os):=h.below (below_regrown w n os) (Nat.le_refl _)
def tyO(h:Hd)(k:Fo):Option TypeId:=
 if h.kind=1 then some 230 else if h.kind=2\/h.kind=3 then some 231 else if h.kind=4 then some 232
 else if h.kind=5 then some 233 else if h.kind=6\/h.kind=7 then some 234 else if h.kind=9 then some 235
 else if h.kind=8 then(if W6 h k=emp then some 238 else some 236) else none
def WrongAt(w w':World)(v:Value):Prop:= ∃g,v=.iface 156 (.pointer (some ⟨g,0,none⟩))/\Blk w' g 158 #[.int .i64 1,.int .i64 0,.string emp]/\w.heap.size<=g
def ValAt(w w':World)(h:Hd)(k:Fo)(v:Value):Prop:=match tyO h k with
 | none=>v=.nilIface
 | some t=> ∃pa pc ia ic,v=.iface t (.agg (h.cells pa pc ia k.len ic))/\DatAt w' (fun b=>w.heap.size<=b) h k pa pc ia ic
theorem ValAt.none{w w':World}{h:Hd}{k:Fo}(e:tyO h k=none):ValAt w w' h k .nilIface:=by unfold ValAt;rw[e]
theorem ValAt.some{w w':World}{h:Hd}{k:Fo}{t:TypeId}{pa:Option Addr}{pc:Nat}{ia:Option Addr}{ic:Nat}(e:tyO h k=some t)(d:DatAt w' (fun b=>w.heap.size<=b) h k pa pc ia ic):
  ValAt w w' h k (.iface t (.agg (h.cells pa pc ia k.len ic))):=by unfold ValAt;rw[e];exact⟨_,_,_,_,rfl,d⟩
def Q9(h:Hd)(k:Fo)(w:World)(e:Ending)(w':World):Prop:=Below w.heap.size w w'/\
 if G3 h k=true then ∃v,e=.returned (.tuple #[v,.nilIface])/\ValAt w w' h k v else ∃v,e=.returned (.tuple #[.nilIface,v])/\WrongAt w w' v
theorem Z7(s:ByteArray):s.toList=[]↔s=emp:=by
 rw[Lib.toList_data]
 constructor
 ·intro h;cases s with | mk d=>simp at h;subst h;rfl
 ·rintro rfl;rfl
set_option maxRecDepth 100000 in
set_option maxHeartbeats 4000000 in
theorem Be8(h:Hd)(k:Fo)(ho:h.ok)(hk:k.ok)(hl:k.len<=1034834473170)(w:World)(S:Nat->Prop)(pa:Option Addr)(pc:Nat)(ia:Option Addr)(ic:Nat)(hd:DatAt w S h k pa pc ia ic)(hown:OwnAt w):
  Calls Tryz.prog 127 #[.agg (h.cells pa pc ia k.len ic)] w (Q9 h k w):=by
 unfold Hd.cells
 go_enter Tryz.func127,Tryz.ntmps127
 go_upto_region 0 with fail
 go_cut [0,1] (fun _ t1 wx=>t1=.pointer (some ⟨w.heap.size,0,none⟩)/\Blk wx w.heap.size 53 (h.cells pa pc ia k.len ic)/\Below w.heap.size w wx)
 case first=>
  go_wp2_with fail
  go_meet
  case rel=>exact⟨rfl,Blk.new _ _ _,bz⟩
 case rest=>
 obtain⟨rfl,hA,hbw⟩:=hcut
 obtain⟨w0,rfl⟩: ∃w0:World,w0=wc:=⟨_,rfl⟩
 obtain⟨c0,c1,c2,c3,c4,c5,c6,c7,c8,c9,c10⟩:=(CellsAt.of_blk hA).box
 have hR:=Z9 h k ho hk w0 S pa pc ia ic (hd.below hbw (fun b _ h=>h)) (hown.below hbw (Nat.le_refl _))
 unfold Hd.cells at hR
 have HR:=Lib.hid hR
 clear hR
 go_wp2_with fail
 refine HR.out.mono ?_
 rintro e w1 ⟨rfl,hb1⟩
 have hbw1:=A7 hbw hb1
 have hA1:=hA.below hb1 hA.lt
 have hd1:=hd.below hbw1 (fun b _ h=>h)
 clear HR c0 c1 c2 c3 c4 c5 c6 c7 c8 c9 c10 hA hbw hb1
 cases hr:G3 h k
 ·go_wp2_with fail
  refine(Lo _).mono ?_
  rintro e w2 ⟨rfl,hg,hb2⟩
  go_wp2_with fail
  go_ret2
  refine⟨A7 hbw1 hb2, ?_⟩
  rw[if_neg (by rw[hr];simp)]
  exact⟨_,rfl,_,rfl,hg,hbw1.size⟩
 have HRR:=Lib.hid hr
 clear hr
 obtain⟨c0,c1,c2,c3,c4,c5,c6,c7,c8,c9,c10⟩:=(CellsAt.of_blk hA1).box
 have hT:=Aq8 h k ho hk hl w1 S pa pc ia ic hd1
 unfold Hd.cells at hT
 have HT:=Lib.hid hT
 clear hT
 go_upto_region 3 with fail
 go_cut [4,9,10,11] (fun t4 _ _ _ wx=> ∃g pa pc ia ic,t4=.pointer (some ⟨g,0,none⟩)/\Blk wx g 228 (h.cells pa pc ia k.len ic)/\DatAt wx (fun b=>w.heap.size<=b) h k pa pc ia ic/\w.heap.size<=g/\Below w.heap.size w wx/\Below w1.heap.size w1 wx)
 case first=>
  go_wp2_with fail
  refine HT.out.mono ?_
  rintro e w2 ⟨pa',pc',ia',ic',rfl,hd2,hb2⟩
  unfold Hd.cells
  go_wp2_with fail
  go_meet
  case rel=>
   have hs1:=hbw1.size
   have hs2:=hb2.size
   exact⟨_,pa',pc',ia',ic',rfl,Blk.new _ _ _,hd2.keep (fun b _ h=>Below.heap_alloc _ _ _ h) (fun b h _=>Nat.le_trans hs1 h),Nat.le_trans hs1 hs2,B2 (A7 hbw1 hb2) _,B2 hb2 _⟩
 case rest=>
 obtain⟨g,qa,qc,ja,jc,rfl,hG,hd4,hgw,hbw4,hb14⟩:=hcut
 obtain⟨w4,rfl⟩: ∃w4:World,w4=wc:=⟨_,rfl⟩
 have hA4:=hA1.below hb14 hA1.lt
 clear c0 c1 c2 c3 c4 c5 c6 c7 c8 c9 c10 HT hA1 hbw1 hb14 hd1
 obtain⟨c0,c1,c2,c3,c4,c5,c6,c7,c8,c9,c10⟩:=(CellsAt.of_blk hA4).box
 obtain⟨d0,d1,d2,d3,d4,d5,d6,d7,d8,d9,d10⟩:=(CellsAt.of_blk hG).box
 by_cases h1:h.kind=1
 ·rw[h1] at c0
  have HV:Hid (Q9 h k w (.returned (.tuple #[.iface (230) (.agg (h.cells qa qc ja k.len jc)),.nilIface])) w4):=⟨hbw4,by rw[if_pos HRR.out];exact⟨_,rfl,ValAt.some (by unfold tyO;simp[h1]) hd4⟩⟩
  unfold Hd.cells at HV
  clear hd4 hbw4 hG hA4 h1
  go_wp2_with fail
  go_ret2
  exact HV.out
 have n1:(h.kind==1)=false:=by simpa using h1
 by_cases h2:h.kind=2
 ·rw[h2] at c0
  have HV:Hid (Q9 h k w (.returned (.tuple #[.iface (231) (.agg (h.cells qa qc ja k.len jc)),.nilIface])) w4):=⟨hbw4,by rw[if_pos HRR.out];exact⟨_,rfl,ValAt.some (by unfold tyO;simp[h2]) hd4⟩⟩
  unfold Hd.cells at HV
  clear hd4 hbw4 hG hA4 h2
  go_wp2_with fail
  go_ret2
  exact HV.out
 have n2:(h.kind==2)=false:=by simpa using h2
 by_cases h3:h.kind=3
 ·rw[h3] at c0
  have HV:Hid (Q9 h k w (.returned (.tuple #[.iface (231) (.agg (h.cells qa qc ja k.len jc)),.nilIface])) w4):=⟨hbw4,by rw[if_pos HRR.out];exact⟨_,rfl,ValAt.some (by unfold tyO;simp[h3]) hd4⟩⟩
  unfold Hd.cells at HV
  clear hd4 hbw4 hG hA4 h3
  go_wp2_with fail
  go_ret2
  exact HV.out
 have n3:(h.kind==3)=false:=by simpa using h3
 by_cases h4:h.kind=4
 ·rw[h4] at c0
  have HV:Hid (Q9 h k w (.returned (.tuple #[.iface (232) (.agg (h.cells qa qc ja k.len jc)),.nilIface])) w4):=⟨hbw4,by rw[if_pos HRR.out];exact⟨_,rfl,ValAt.some (by unfold tyO;simp[h4]) hd4⟩⟩
  unfold Hd.cells at HV
  clear hd4 hbw4 hG hA4 h4
  go_wp2_with fail
  go_ret2
  exact HV.out
 have n4:(h.kind==4)=false:=by simpa using h4
 by_cases h5:h.kind=5
 ·rw[h5] at c0
  have HV:Hid (Q9 h k w (.returned (.tuple #[.iface (233) (.agg (h.cells qa qc ja k.len jc)),.nilIface])) w4):=⟨hbw4,by rw[if_pos HRR.out];exact⟨_,rfl,ValAt.some (by unfold tyO;simp[h5]) hd4⟩⟩
  unfold Hd.cells at HV
  clear hd4 hbw4 hG hA4 h5
  go_wp2_with fail
  go_ret2
  exact HV.out
 have n5:(h.kind==5)=false:=by simpa using h5
 by_cases h6:h.kind=6
 ·rw[h6] at c0
  have HV:Hid (Q9 h k w (.returned (.tuple #[.iface (234) (.agg (h.cells qa qc ja k.len jc)),.nilIface])) w4):=⟨hbw4,by rw[if_pos HRR.out];exact⟨_,rfl,ValAt.some (by unfold tyO;simp[h6]) hd4⟩⟩
  unfold Hd.cells at HV
  clear hd4 hbw4 hG hA4 h6
  go_wp2_with fail
  go_ret2
  exact HV.out
 have n6:(h.kind==6)=false:=by simpa using h6
 by_cases h7:h.kind=7
 ·rw[h7] at c0
  have HV:Hid (Q9 h k w (.returned (.tuple #[.iface (234) (.agg (h.cells qa qc ja k.len jc)),.nilIface])) w4):=⟨hbw4,by rw[if_pos HRR.out];exact⟨_,rfl,ValAt.some (by unfold tyO;simp[h7]) hd4⟩⟩
  unfold Hd.cells at HV
  clear hd4 hbw4 hG hA4 h7
  go_wp2_with fail
  go_ret2
  exact HV.out
 have n7:(h.kind==7)=false:=by simpa using h7
 by_cases h9:h.kind=9
 ·rw[h9] at c0
  have HV:Hid (Q9 h k w (.returned (.tuple #[.iface (235) (.agg (h.cells qa qc ja k.len jc)),.nilIface])) w4):=⟨hbw4,by rw[if_pos HRR.out];exact⟨_,rfl,ValAt.some (by unfold tyO;simp[h9]) hd4⟩⟩
  unfold Hd.cells at HV
  clear hd4 hbw4 hG hA4 h9
  go_wp2_with fail
  go_ret2
  exact HV.out
 have n9:(h.kind==9)=false:=by simpa using h9
 by_cases h8:h.kind=8
 ·rw[h8] at c0
  have hH:=Px h k ho hk w4 S pa pc ia ic (hd.below hbw4 (fun b _ h=>h))
  unfold Hd.cells at hH
  rw[h8] at hH
  have HH:=Lib.hid hH
  have HT:Hid (∀w5,Below w4.heap.size w4 w5->W6 h k=emp->Q9 h k w (.returned (.tuple #[.iface 238 (.agg (h.cells qa qc ja k.len jc)),.nilIface])) w5):=fun w5 hb e=>
   ⟨A7 hbw4 hb,by rw[if_pos HRR.out];exact⟨_,rfl,ValAt.some (by unfold tyO;simp[h8,e]) (hd4.below hb (fun _ _ h=>h))⟩⟩
  have HF:Hid (∀w5,Below w4.heap.size w4 w5->W6 h k≠emp->Q9 h k w (.returned (.tuple #[.iface 236 (.agg (h.cells qa qc ja k.len jc)),.nilIface])) w5):=fun w5 hb e=>
   ⟨A7 hbw4 hb,by rw[if_pos HRR.out];exact⟨_,rfl,ValAt.some (by unfold tyO;simp[h8,e]) (hd4.below hb (fun _ _ h=>h))⟩⟩
  unfold Hd.cells at HT HF
  have hG1:=hG.lt
  clear hH hd4 hbw4 hA4 h8
  generalize W6 h k=sb at HH HT HF
  go_wp2_with fail
  refine HH.out.mono ?_
  rintro e w5 ⟨rfl,hb5⟩
  have hG5:=hG.below hb5 hG1
  clear HH hG c0 c1 c2 c3 c4 c5 c6 c7 c8 c9 c10 d0 d1 d2 d3 d4 d5 d6 d7 d8 d9 d10
  obtain⟨d0,d1,d2,d3,d4,d5,d6,d7,d8,d9,d10⟩:=(CellsAt.of_blk hG5).box
  go_wp2_with fail
  ·go_ret2
   exact HT.out _ hb5 ((Z7 _).1 (by simp_all))
  ·go_ret2
   exact HF.out _ hb5 (fun e=>by have:=(Z7 _).2 e;simp_all)
 have n8:(h.kind==8)=false:=by simpa using h8
 have HV:Hid (Q9 h k w (.returned (.tuple #[.nilIface,.nilIface])) w4):=⟨hbw4,by rw[if_pos HRR.out];exact⟨_,rfl,ValAt.none (by unfold tyO;simp[h1,h2,h3,h4,h5,h6,h7,h8,h9])⟩⟩
 clear hd4 hbw4 hG hA4 h1 h2 h3 h4 h5 h6 h7 h8 h9
 go_wp2_with fail
 go_ret2
 exact HV.out
theorem Ab4(h:Hd)(k:Fo):tyO h k=none\/tyO h k=some 230\/tyO h k=some 231\/tyO h k=some 232\/tyO h k=some 233\/
  tyO h k=some 234\/tyO h k=some 235\/tyO h k=some 238\/tyO h k=some 236:=by
 unfold tyO
 split
 ·simp
 split
 ·simp
 split
 ·simp
 split
 ·simp
 split
 ·simp
 split
 ·simp
 split
 ·split<;>simp
 ·simp
def Cc5(t:TypeId):Prop:=t=230\/t=231\/t=232\/t=233\/t=234\/t=235\/t=238\/t=236
theorem Ab5{h:Hd}{k:Fo}{t:TypeId}(e:tyO h k=some t):Cc5 t:=by
 have:=Ab4 h k
 rw[e] at this
 simpa[Cc5] using this
def Lh(t:TypeId):Bool:=t==230||t==231||t==232||t==235||t==238
theorem Aw{t:TypeId}(ht:Cc5 t)(v:Value)(w:World):(Instr.typeAssert (.iface t v) 210 214 true).run Tryz.prog w=.ok (.tuple #[if Lh t then .iface t v else .nilIface,.bool (Lh t)]) w:=by
 rcases ht with rfl | rfl | rfl | rfl | rfl | rfl | rfl | rfl<;>
 first
  | exact run_typeAssert_hasB Tryz.underlying214 Zk v _ w
  | exact run_typeAssert_lacksB Tryz.underlying214 Zk Zk v _ w
theorem R1(w:World):(Instr.typeAssert .nilIface 210 214 true).run Tryz.prog w=.ok (.tuple #[.nilIface,.bool false]) w:=by kernel_rfl
section
variable (a0 a1 a2 a3 a4 a5 a6 a7 a8 a9 a10:Value) (w:World)
theorem Sd:(callMethod (.iface 230 (.agg #[a0,a1,a2,a3,a4,a5,a6,a7,a8,a9,a10])) "Hash" #[]).run Tryz.prog w=.ok (.enter 181 #[.agg #[a0,a1,a2,a3,a4,a5,a6,a7,a8,a9,a10]]) w:=by kernel_rfl
theorem Ng:(callMethod (.iface 231 (.agg #[a0,a1,a2,a3,a4,a5,a6,a7,a8,a9,a10])) "Hash" #[]).run Tryz.prog w=.ok (.enter 182 #[.agg #[a0,a1,a2,a3,a4,a5,a6,a7,a8,a9,a10]]) w:=by kernel_rfl
theorem Nh:(callMethod (.iface 232 (.agg #[a0,a1,a2,a3,a4,a5,a6,a7,a8,a9,a10])) "Hash" #[]).run Tryz.prog w=.ok (.enter 183 #[.agg #[a0,a1,a2,a3,a4,a5,a6,a7,a8,a9,a10]]) w:=by kernel_rfl
theorem Se:(callMethod (.iface 235 (.agg #[a0,a1,a2,a3,a4,a5,a6,a7,a8,a9,a10])) "Hash" #[]).run Tryz.prog w=.ok (.enter 186 #[.agg #[a0,a1,a2,a3,a4,a5,a6,a7,a8,a9,a10]]) w:=by kernel_rfl
theorem Sf:(callMethod (.iface 238 (.agg #[a0,a1,a2,a3,a4,a5,a6,a7,a8,a9,a10])) "Hash" #[]).run Tryz.prog w=.ok (.enter 187 #[.agg #[a0,a1,a2,a3,a4,a5,a6,a7,a8,a9,a10]]) w:=by kernel_rfl
end
def Ev7:ByteArray:=⟨#[99,111,109,112,97,114,101]⟩
def Dn9:ByteArray:=⟨#[107,101,121]⟩
def FaultAt(w w':World)(v:Value)(word more:ByteArray):Prop:= ∃g,v=.iface 173 (.pointer (some ⟨g,0,none⟩))/\Blk w' g 175 #[.string word,.string more]/\w.heap.size<=g
theorem FaultAt.keep{w w1 w2:World}{v:Value}{a b:ByteArray}(h:FaultAt w w1 v a b)(hb:Below w1.heap.size w1 w2):FaultAt w w2 v a b:=by
 obtain⟨g,h1,h2,h3⟩:=h
 exact⟨g,h1,h2.below hb h2.lt,h3⟩
theorem WrongAt.keep{w w1 w2:World}{v:Value}(h:WrongAt w w1 v)(hb:Below w1.heap.size w1 w2):WrongAt w w2 v:=by
 obtain⟨g,h1,h2,h3⟩:=h
 exact⟨g,h1,h2.below hb h2.lt,h3⟩
theorem WrongAt.from{w0 w w1:World}{v:Value}(h:WrongAt w w1 v)(hb:w0.heap.size<=w.heap.size):WrongAt w0 w1 v:=by
 obtain⟨g,h1,h2,h3⟩:=h
 exact⟨g,h1,h2,Nat.le_trans hb h3⟩
theorem FaultAt.from{w0 w w1:World}{v:Value}{a b:ByteArray}(h:FaultAt w w1 v a b)(hb:w0.heap.size<=w.heap.size):FaultAt w0 w1 v a b:=by
 obtain⟨g,h1,h2,h3⟩:=h
 exact⟨g,h1,h2,Nat.le_trans hb h3⟩
def Dy(h:Hd)(k:Fo)(h':Hd)(k':Fo)(w:World)(e:Ending)(w':World):Prop:=Below w.heap.size w w'/\∃b v,e=.returned (.tuple #[.bool b,v])/\
 if(G3 h k&&G3 h' k')=true then b=(if(D8 h k h' k').2=emp then(D8 h k h' k').1 else false)/\(if(D8 h k h' k').2=emp then v=.nilIface else FaultAt w w' v Ev7 (D8 h k h' k').2) else b=false/\WrongAt w w' v
set_option maxRecDepth 100000 in
set_option maxHeartbeats 4000000 in
theorem Ab6(h:Hd)(k:Fo)(h':Hd)(k':Fo)(ho:h.ok)(hk:k.ok)(ho':h'.ok)(hk':k'.ok)(w:World)(S T:Nat->Prop)(pa:Option Addr)(pc:Nat)(ia:Option Addr)(ic:Nat)(pa':Option Addr)(pc':Nat)(ia':Option Addr)(ic':Nat)
  (hd:DatAt w S h k pa pc ia ic) (hd':DatAt w T h' k' pa' pc' ia' ic') (hown:OwnAt w):
  Calls Tryz.prog 99 #[.agg (h.cells pa pc ia k.len ic),.agg (h'.cells pa' pc' ia' k'.len ic')] w (Dy h k h' k' w):=by
 unfold Hd.cells
 go_enter Tryz.func99,Tryz.ntmps99
 go_upto_region 0 with fail
 go_cut [0,1,2,3] (fun _ _ t2 t3 wx=>t2=.pointer (some ⟨w.heap.size,0,none⟩)/\t3=.pointer (some ⟨w.heap.size+1,0,none⟩)/\Blk wx w.heap.size 53 (h.cells pa pc ia k.len ic)/\Blk wx (w.heap.size+1) 53 (h'.cells pa' pc' ia' k'.len ic')/\Below w.heap.size w wx)
 case first=>
  go_wp2_with fail
  go_meet
  case rel=>exact⟨rfl,rfl,(Blk.new _ _ _).alloc _,Blk.new1 _ _ _ _,bz⟩
 case rest=>
 obtain⟨rfl,rfl,hA,hB,hbw⟩:=hcut
 obtain⟨w0,rfl⟩: ∃w0:World,w0=wc:=⟨_,rfl⟩
 go_upto_region 1 with fail
 go_cut [15] (fun t wx=>t=.bool (!(G3 h k&&G3 h' k'))/\Below w0.heap.size w0 wx)
 case first=>
  as_aux_lemma=>
   have hR:=Z9 h k ho hk w0 S pa pc ia ic (hd.below hbw (fun b _ h=>h)) (hown.below hbw (Nat.le_refl _))
   unfold Hd.cells at hR
   have HR:=Lib.hid hR
   clear hR
   obtain⟨c0,c1,c2,c3,c4,c5,c6,c7,c8,c9,c10⟩:=(CellsAt.of_blk hA).box
   obtain⟨d0,d1,d2,d3,d4,d5,d6,d7,d8,d9,d10⟩:=(CellsAt.of_blk hB).box
   go_wp2_with fail
   refine HR.out.mono ?_
   rintro e w1 ⟨rfl,hb1⟩
   have hR':=Z9 h' k' ho' hk' w1 T pa' pc' ia' ic' (hd'.below (A7 hbw hb1) (fun b _ h=>h)) (hown.below (A7 hbw hb1) (Nat.le_refl _))
   unfold Hd.cells at hR'
   have HR':=Lib.hid hR'
   have hB1:=hB.below hb1 hB.lt
   clear hR' HR c0 c1 c2 c3 c4 c5 c6 c7 c8 c9 c10 d0 d1 d2 d3 d4 d5 d6 d7 d8 d9 d10
   obtain⟨d0,d1,d2,d3,d4,d5,d6,d7,d8,d9,d10⟩:=(CellsAt.of_blk hB1).box
   cases hr:G3 h k
   ·go_wp2_with fail
    go_meet
    case rel=>exact⟨by rw[hr];rfl,hb1⟩
   ·go_wp2_with fail
    refine HR'.out.mono ?_
    rintro e w2 ⟨rfl,hb2⟩
    go_wp2_with fail
    go_meet
    case rel=>exact⟨by rw[hr];simp,A7 hb1 hb2⟩
 case rest=>
 obtain⟨rfl,hb1⟩:=hcut
 obtain⟨w1,rfl⟩: ∃w1:World,w1=wc:=⟨_,rfl⟩
 have hbw1:=A7 hbw hb1
 have hA1:=hA.below hb1 hA.lt
 have hB1:=hB.below hb1 hB.lt
 clear hA hB hb1 hbw
 cases hr:(G3 h k&&G3 h' k')
 ·go_wp2_with fail
  refine(Lo _).mono ?_
  rintro e w2 ⟨rfl,hg,hb2⟩
  go_wp2_with fail
  go_ret2
  refine⟨A7 hbw1 hb2,_,_,rfl, ?_⟩
  rw[if_neg (by rw[hr];simp)]
  exact⟨rfl,_,rfl,hg,hbw1.size⟩
 have HRR:=Lib.hid hr
 clear hr
 obtain⟨c0,c1,c2,c3,c4,c5,c6,c7,c8,c9,c10⟩:=(CellsAt.of_blk hA1).box
 obtain⟨d0,d1,d2,d3,d4,d5,d6,d7,d8,d9,d10⟩:=(CellsAt.of_blk hB1).box
 have hE:=Ln h k h' k' ho hk ho' hk' w1 S T pa pc ia ic pa' pc' ia' ic' (hd.below hbw1 (fun _ _ h=>h)) (hd'.below hbw1 (fun _ _ h=>h))
 unfold Hd.cells at hE
 have HE:=Lib.hid hE
 clear hE
 have HP:Hid (∀w' b v,Below w.heap.size w w'->(b=(if(D8 h k h' k').2=emp then(D8 h k h' k').1 else false))->(if(D8 h k h' k').2=emp then v=.nilIface else FaultAt w w' v Ev7 (D8 h k h' k').2)->Dy h k h' k' w (.returned (.tuple #[.bool b,v])) w'):=fun w' b v hb e f=>
  ⟨hb,b,v,rfl,by rw[if_pos HRR.out];exact⟨e,f⟩⟩
 generalize D8 h k h' k'=q at HE HP
 obtain⟨qb,qs⟩:=q
 go_wp2_with fail
 refine HE.out.mono ?_
 rintro e w2 ⟨rfl,hb2⟩
 clear HE c0 c1 c2 c3 c4 c5 c6 c7 c8 c9 c10 d0 d1 d2 d3 d4 d5 d6 d7 d8 d9 d10
 have hbw2:=A7 hbw1 hb2
 go_wp2_with fail
 ·go_ret2
  have he:qs≠emp:=fun e=>by have:=(Z7 _).2 e;simp_all
  exact HP.out _ _ _ (B2 hbw2 _) (by rw[if_neg he]) (by rw[if_neg he];exact⟨_,rfl,Blk.new _ _ _,hbw2.size⟩)
 ·go_ret2
  have he:qs=emp:=(Z7 _).1 (by simp_all)
  exact HP.out _ _ _ hbw2 (by rw[if_pos he]) (by rw[if_pos he];rfl)
def Ez(h:Hd)(k:Fo):Bool:=match tyO h k with | none=>true | some t=>Lh t
def Sg(h:Hd)(k:Fo)(w w':World)(v:Value):Prop:=if G3 h k=true then(if Ez h k=true then v=.nilIface else FaultAt w w' v Dn9 (W6 h k)) else WrongAt w w' v
def Ab7(h:Hd)(k:Fo)(w:World)(e:Ending)(w':World):Prop:=Below w.heap.size w w'/\∃v,e=.returned v/\Sg h k w w' v
set_option maxRecDepth 100000 in
set_option maxHeartbeats 4000000 in
theorem Ab8(h:Hd)(k:Fo)(ho:h.ok)(hk:k.ok)(hl:k.len<=1034834473170)(w:World)(S:Nat->Prop)(pa:Option Addr)(pc:Nat)(ia:Option Addr)(ic:Nat)(hd:DatAt w S h k pa pc ia ic)(hown:OwnAt w):
  Calls Tryz.prog 115 #[.agg (h.cells pa pc ia k.len ic)] w (Ab7 h k w):=by
 unfold Hd.cells
 go_enter Tryz.func115,Tryz.ntmps115
 go_upto_region 0 with fail
 go_cut [0,1] (fun _ t1 wx=>t1=.pointer (some ⟨w.heap.size,0,none⟩)/\Blk wx w.heap.size 53 (h.cells pa pc ia k.len ic)/\Below w.heap.size w wx)
 case first=>
  go_wp2_with fail
  go_meet
  case rel=>exact⟨rfl,Blk.new _ _ _,bz⟩
 case rest=>
 obtain⟨rfl,hA,hbw⟩:=hcut
 obtain⟨w0,rfl⟩: ∃w0:World,w0=wc:=⟨_,rfl⟩
 obtain⟨c0,c1,c2,c3,c4,c5,c6,c7,c8,c9,c10⟩:=(CellsAt.of_blk hA).box
 have hO:=Be8 h k ho hk hl w0 S pa pc ia ic (hd.below hbw (fun b _ h=>h)) (hown.below hbw (Nat.le_refl _))
 unfold Hd.cells at hO
 have HO:=Lib.hid hO
 clear hO
 go_wp2_with fail
 refine HO.out.mono ?_
 rintro e w1 ⟨hb1,he⟩
 have hbw1:=A7 hbw hb1
 have hA1:=hA.below hb1 hA.lt
 have hd1:=hd.below hbw1 (fun b _ h=>h)
 clear HO c0 c1 c2 c3 c4 c5 c6 c7 c8 c9 c10 hA hb1
 by_cases hr:G3 h k=true
 ·rw[if_pos hr] at he
  obtain⟨v,rfl,hv⟩:=he
  have HRR:=Lib.hid hr
  cases et:tyO h k with
  | none=>
   unfold ValAt at hv
   rw[et] at hv
   subst hv
   have HK:Hid (Ez h k=true):=by unfold Hid Ez;rw[et]
   have hn:=R1
   go_wp2_with fail
   go_ret
   exact⟨hbw1,_,rfl,by unfold Sg;rw[if_pos HRR.out,if_pos HK.out];rfl⟩
  | some t=>
   unfold ValAt at hv
   rw[et] at hv
   obtain⟨qa,qc,ja,jc,rfl,_⟩:=hv
   have ht:=Ab5 et
   have hn:=Aw ht
   cases hkt:Lh t<;>rw[hkt] at hn
   ·have HK:Hid (Ez h k=false):=by unfold Hid Ez;rw[et];exact hkt
    have hH:=Px h k ho hk w1 S pa pc ia ic hd1
    unfold Hd.cells at hH
    have HH:=Lib.hid hH
    obtain⟨c0,c1,c2,c3,c4,c5,c6,c7,c8,c9,c10⟩:=(CellsAt.of_blk hA1).box
    clear hH hkt
    go_wp2_with fail
    refine HH.out.mono ?_
    rintro e w2 ⟨rfl,hb2⟩
    go_wp2_with fail
    go_ret
    refine⟨B2 (A7 hbw1 hb2) _,_,rfl, ?_⟩
    unfold Sg
    rw[if_pos HRR.out,if_neg (by rw[HK.out];simp)]
    exact⟨_,rfl,Blk.new _ _ _,(A7 hbw1 hb2).size⟩
   ·have HK:Hid (Ez h k=true):=by unfold Hid Ez;rw[et];exact hkt
    go_wp2_with fail
    go_ret
    exact⟨hbw1,_,rfl,by unfold Sg;rw[if_pos HRR.out,if_pos HK.out];rfl⟩
 ·rw[if_neg hr] at he
  obtain⟨v,rfl,g,rfl,hv⟩:=he
  have HRR:=Lib.hid hr
  clear hr
  go_wp2_with fail
  go_ret
  exact⟨hbw1,_,rfl,by unfold Sg;rw[if_neg HRR.out];exact⟨g,rfl,hv.1,Nat.le_trans hbw.size hv.2⟩⟩
def hd0:Hd:=⟨0,emp,0,0,emp,0,0,0,0,[]⟩
theorem Dl6:hd0.ok:=by constructor<;>simp[hd0,emp,F8,ByteArray.size]
theorem Dl7(w:World):DatAt w (fun _=>False) hd0 .nil none 0 none 0:=⟨Or.inl rfl,Nat.le_refl _,capOk.nil,Or.inl rfl,Nat.le_refl _,capOk.nil⟩
def Dz(h:Hd)(k:Fo):Int:=match tyO h k with | none=>T6 hd0 .nil | some _=>T6 h k
def Cc(h:Hd)(k:Fo)(w:World)(e:Ending)(w':World):Prop:=Below w.heap.size w w'/\∃n v,e=.returned (.tuple #[.int .u64 n,v])/\Sg h k w w' v/\n=if(G3 h k&&Ez h k)=true then Dz h k else 0
set_option maxRecDepth 100000 in
set_option maxHeartbeats 4000000 in
theorem Ap8(h:Hd)(k:Fo)(ho:h.ok)(hk:k.ok)(hl:k.len<=1034834473170)(w:World)(S:Nat->Prop)(pa:Option Addr)(pc:Nat)(ia:Option Addr)(ic:Nat)(hd:DatAt w S h k pa pc ia ic)(hown:OwnAt w):
  Calls Tryz.prog 116 #[.agg (h.cells pa pc ia k.len ic)] w (Cc h k w):=by
 unfold Hd.cells
 go_enter Tryz.func116,Tryz.ntmps116
 go_upto_region 0 with fail
 go_cut [0,1] (fun _ t1 wx=>t1=.pointer (some ⟨w.heap.size,0,none⟩)/\Blk wx w.heap.size 53 (h.cells pa pc ia k.len ic)/\Below w.heap.size w wx)
 case first=>
  go_wp2_with fail
  go_meet
  case rel=>exact⟨rfl,Blk.new _ _ _,bz⟩
 case rest=>
 obtain⟨rfl,hA,hbw⟩:=hcut
 obtain⟨w0,rfl⟩: ∃w0:World,w0=wc:=⟨_,rfl⟩
 obtain⟨c0,c1,c2,c3,c4,c5,c6,c7,c8,c9,c10⟩:=(CellsAt.of_blk hA).box
 have hO:=Ab8 h k ho hk hl w0 S pa pc ia ic (hd.below hbw (fun b _ h=>h)) (hown.below hbw (Nat.le_refl _))
 unfold Hd.cells at hO
 have HO:=Lib.hid hO
 clear hO
 go_wp2_with fail
 refine HO.out.mono ?_
 rintro e w1 ⟨hb1,v,rfl,hv⟩
 have hbw1:=A7 hbw hb1
 have hA1:=hA.below hb1 hA.lt
 clear HO c0 c1 c2 c3 c4 c5 c6 c7 c8 c9 c10 hA hb1
 by_cases hr:(G3 h k&&Ez h k)=true
 ·have hr1:G3 h k=true:=by revert hr;cases G3 h k<;>simp
  have hr2:Ez h k=true:=by revert hr;cases Ez h k<;>simp
  unfold Sg at hv
  rw[if_pos hr1,if_pos hr2] at hv
  subst hv
  have HR1:=Lib.hid hr1
  have HP:Hid (∀w',Below w.heap.size w w'->Cc h k w (.returned (.tuple #[.int .u64 (Dz h k),.nilIface])) w'):=fun w' hb=>
   ⟨hb,_,_,rfl,by unfold Sg;rw[if_pos hr1,if_pos hr2],by rw[if_pos hr]⟩
  obtain⟨c0,c1,c2,c3,c4,c5,c6,c7,c8,c9,c10⟩:=(CellsAt.of_blk hA1).box
  have hO:=Be8 h k ho hk hl w1 S pa pc ia ic (hd.below hbw1 (fun b _ h=>h)) (hown.below hbw1 (Nat.le_refl _))
  unfold Hd.cells at hO
  have HO:=Lib.hid hO
  clear hO hr hr1
  go_wp2_with fail
  refine HO.out.mono ?_
  rintro e w2 ⟨hb2,he⟩
  rw[if_pos HR1.out] at he
  obtain⟨v,rfl,hv⟩:=he
  have hbw2:=A7 hbw1 hb2
  clear HO c0 c1 c2 c3 c4 c5 c6 c7 c8 c9 c10
  cases et:tyO h k with
  | none=>
   unfold ValAt at hv
   rw[et] at hv
   subst hv
   have HV:Hid (Dz h k=T6 hd0 .nil):=by unfold Hid Dz;rw[et]
   have hn:=R1
   have hh:=U5 hd0 .nil Dl6 trivial (by simp[Fo.len]) w2 (fun _=>False) none 0 none 0 (Dl7 w2)
   unfold Hd.cells hd0 emp at hh
   simp only[List.length_nil,Fo.len] at hh
   have HH:=Lib.hid hh
   clear hh
   go_wp2_with fail
   refine HH.out.mono ?_
   rintro e w3 ⟨rfl,hb3⟩
   go_wp2_with fail
   go_ret2
   have:=HP.out _ (A7 hbw2 hb3)
   rw[HV.out] at this
   exact this
  | some t=>
   unfold ValAt at hv
   rw[et] at hv
   obtain⟨qa,qc,ja,jc,rfl,hdv⟩:=hv
   have ht:=Ab5 et
   have HV:Hid (Dz h k=T6 h k):=by unfold Hid Dz;rw[et]
   have hkt:Lh t=true:=by unfold Ez at hr2;rw[et] at hr2;exact hr2
   have hn:=Aw ht
   rw[hkt] at hn
   rcases ht with rfl | rfl | rfl | rfl | rfl | rfl | rfl | rfl<;>try (exact absurd hkt Zd)
   ·have hm:=Sd
    have hh:=Hx h k ho hk hl w2 _ qa qc ja jc hdv
    unfold Hd.cells at hh ⊢
    have HH:=Lib.hid hh
    clear hh hkt
    go_wp2_with fail
    refine HH.out.mono ?_
    rintro e w3 ⟨rfl,hb3⟩
    go_wp2_with fail
    go_ret2
    have:=HP.out _ (A7 hbw2 hb3)
    rw[HV.out] at this
    exact this
   ·have hm:=Ng
    have hh:=Ex h k ho hk hl w2 _ qa qc ja jc hdv
    unfold Hd.cells at hh ⊢
    have HH:=Lib.hid hh
    clear hh hkt
    go_wp2_with fail
    refine HH.out.mono ?_
    rintro e w3 ⟨rfl,hb3⟩
    go_wp2_with fail
    go_ret2
    have:=HP.out _ (A7 hbw2 hb3)
    rw[HV.out] at this
    exact this
   ·have hm:=Nh
    have hh:=Ey h k ho hk hl w2 _ qa qc ja jc hdv
    unfold Hd.cells at hh ⊢
    have HH:=Lib.hid hh
    clear hh hkt
    go_wp2_with fail
    refine HH.out.mono ?_
    rintro e w3 ⟨rfl,hb3⟩
    go_wp2_with fail
    go_ret2
    have:=HP.out _ (A7 hbw2 hb3)
    rw[HV.out] at this
    exact this
   ·have hm:=Se
    have hh:=Hy h k ho hk hl w2 _ qa qc ja jc hdv
    unfold Hd.cells at hh ⊢
    have HH:=Lib.hid hh
    clear hh hkt
    go_wp2_with fail
    refine HH.out.mono ?_
    rintro e w3 ⟨rfl,hb3⟩
    go_wp2_with fail
    go_ret2
    have:=HP.out _ (A7 hbw2 hb3)
    rw[HV.out] at this
    exact this
   ·have hm:=Sf
    have hh:=Hz h k ho hk hl w2 _ qa qc ja jc hdv
    unfold Hd.cells at hh ⊢
    have HH:=Lib.hid hh
    clear hh hkt
    go_wp2_with fail
    refine HH.out.mono ?_
    rintro e w3 ⟨rfl,hb3⟩
    go_wp2_with fail
    go_ret2
    have:=HP.out _ (A7 hbw2 hb3)
    rw[HV.out] at this
    exact this
 ·have HE:Hid (∀w' v,Below w.heap.size w w'->Sg h k w w' v->Cc h k w (.returned (.tuple #[.int .u64 0,v])) w'):=fun w' v hb hv=>
   ⟨hb,_,_,rfl,hv,by rw[if_neg hr]⟩
  have HKV:=Lib.hid hv
  have hif: ∃t g,v=.iface t (.pointer (some ⟨g,0,none⟩)):=by
   unfold Sg at hv
   split at hv
   ·rename_i h1
    split at hv
    ·rename_i h2
     exact absurd (by rw[h1,h2];rfl) hr
    ·obtain⟨g,rfl,_⟩:=hv;exact⟨_,_,rfl⟩
   ·obtain⟨g,rfl,_⟩:=hv;exact⟨_,_,rfl⟩
  obtain⟨t,g,rfl⟩:=hif
  clear hr hv
  go_wp2_with fail
  go_ret2
  refine HE.out _ _ hbw1 ?_
  have:=HKV.out
  unfold Sg at this ⊢
  split at this
  ·rename_i h1
   rw[if_pos h1]
   split at this
   ·cases this
   ·rename_i h2;rw[if_neg h2];exact this.from hbw.size
  ·rename_i h1
   rw[if_neg h1]
   exact this.from hbw.size
end Go.Proofs.YtbjegfpfmnleeaaGreatDoor
namespace Go.Proofs.YtbjegfpfmnleeaaGreatDoor
def Bb9:Fo->Nat
 | .nil=>0
 | .cons _ k r=>1+Bb9 k+Bb9 r
def okF:Fo->Bool
 | .nil=>true
 | .cons h k r=>K9 h k.len&&okF k&&okF r
theorem Dh: ∀(f:Fo) (n:Int),0<=n->(I0 f n).1=(okF f&&decide ((Bb9 f:Int)<=n))/\((I0 f n).1=true->(I0 f n).2=n-Bb9 f)
 | .nil,n,h=>by simp[I0,okF,Bb9,h]
 | .cons h k r,n,hn=>by
  rw[I0,okF,Bb9]
  by_cases h1:n-1<0
  ·rw[if_pos h1]
   refine⟨?_,fun e=>by cases e⟩
   rw[decide_eq_false Zo];simp
  rw[if_neg h1]
  by_cases h2:K9 h k.len=false
  ·rw[if_pos h2,h2]
   exact⟨by simp,fun e=>by cases e⟩
  rw[if_neg h2]
  have h2':K9 h k.len=true:=by revert h2;cases K9 h k.len<;>simp
  have ik:=Dh k (n-1) Zo
  by_cases h3:(I0 k (n-1)).1=true
  ·rw[if_pos h3]
   have e2:=ik.2 h3
   have e1:=ik.1
   rw[h3] at e1
   have e1':=e1.symm
   rw[Bool.and_eq_true,decide_eq_true_iff] at e1'
   have ir:=Dh r (I0 k (n-1)).2 (by rw[e2];omega)
   refine⟨?_,fun e=> ?_⟩
   ·rw[ir.1,h2',e1'.1,e2]
    simp only[Bool.true_and]
    congr 1
    rw[decide_eq_decide]
    omega
   ·rw[ir.2 e,e2];omega
  ·rw[if_neg h3]
   refine⟨?_,fun e=>by cases e⟩
   have h3':(I0 k (n-1)).1=false:=by revert h3;cases (I0 k (n-1)).1<;>simp
   have e1:=ik.1
   rw[h3'] at e1
   by_cases ho:okF k=true
   ·rw[ho] at e1
    simp only[Bool.true_and] at e1
    have:=of_decide_eq_false e1.symm
    rw[decide_eq_false (show ¬((1+Bb9 k+Bb9 r:Nat):Int)<=n by omega)];simp
   ·have:okF k=false:=by revert ho;cases okF k<;>simp
    simp[this]
def L7:Fo->Int->Int
 | .nil,n=>n
 | .cons h k r,n=>if 100<n then n else L7 r (n+(if h.kind≠8 then 1 else if 100<k.len then 101 else if 100<L7 k 1 then 101 else L7 k 1))
def I9(h:Hd)(k:Fo):Int:=if h.kind≠8 then 1 else if 100<k.len then 101 else if 100<L7 k 1 then 101 else L7 k 1
theorem K6(h:Hd)(k r:Fo)(n:Int):L7 (.cons h k r) n=if 100<n then n else L7 r (n+I9 h k):=by rw[L7];rfl
theorem L8: ∀(h:Hd) (k:Fo),(∀n,1<=n->1<=L7 k n)->1<=I9 h k/\I9 h k<=101:=by
 intro h k hk
 unfold I9
 have:=hk 1 (Int.le_refl _)
 split<;>(try split)<;>(try split)<;>omega
theorem O0: ∀(f:Fo) (n:Int),1<=n->1<=L7 f n
 | .nil,n,h=>h
 | .cons h k r,n,hn=>by
  rw[K6]
  have:=L8 h k (O0 k)
  split
  ·omega
  ·exact O0 r _ Zo
theorem Xq: ∀(f:Fo) (n:Int),100<n->L7 f n=n
 | .nil,n,h=>rfl
 | .cons h k r,n,hn=>by rw[K6,if_pos hn]
end Go.Proofs.YtbjegfpfmnleeaaGreatDoor
namespace Go.Proofs.YtbjegfpfmnleeaaGreatDoor
open Go.RowKit Go.Sort
end Go.Proofs.YtbjegfpfmnleeaaGreatDoor
namespace Go.Proofs.YtbjegfpfmnleeaaGreatDoor
def fault(o:Option ByteArray):Value:=match o with | none=>.agg #[.string ⟨#[]⟩,.string ⟨#[]⟩] | some m=>.agg #[.string ⟨#[99,111,109,112,97,114,101]⟩,.string m]
end Go.Proofs.YtbjegfpfmnleeaaGreatDoor
namespace Go.Proofs.YtbjegfpfmnleeaaGreatDoor
open Go.RowKit Go.Sort Go.BigFrame
inductive Er | ok | wrong | fault (word more:ByteArray)
def ErrAt(w w':World)(v:Value):Er->Prop
 | .ok=>v=.nilIface
 | .wrong=>WrongAt w w' v
 | .fault a b=>FaultAt w w' v a b
def Er.told(word more:ByteArray):Er->Bool
 | .ok=>decide (word=emp)
 | .wrong=>false
 | .fault a b=>decide (word≠emp)&&decide (a=word/\b=more)
theorem ErrAt.keep{w w1 w2:World}{v:Value}{e:Er}(h:ErrAt w w1 v e)(hb:Below w1.heap.size w1 w2):ErrAt w w2 v e:=by
 cases e with
 | ok=>exact h
 | wrong=>exact WrongAt.keep h hb
 | fault a b=>exact FaultAt.keep h hb
theorem ErrAt.from{w0 w w1:World}{v:Value}{e:Er}(h:ErrAt w w1 v e)(hb:w0.heap.size<=w.heap.size):ErrAt w0 w1 v e:=by
 cases e with
 | ok=>exact h
 | wrong=>exact WrongAt.from h hb
 | fault a b=>exact FaultAt.from h hb
end Go.Proofs.YtbjegfpfmnleeaaGreatDoor
