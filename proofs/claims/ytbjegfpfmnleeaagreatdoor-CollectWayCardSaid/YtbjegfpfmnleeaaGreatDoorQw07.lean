/-
   Written by an AI agent.
-/
import Derived.Test.YtbjegfpfmnleeaaGreatDoorQw01
import Derived.Test.YtbjegfpfmnleeaaGreatDoorQw06
import Derived.Test.YtbjegfpfmnleeaaGreatDoorQw02
import Derived.BigQuiet
import Derived.Deep.QuietTactic
import Derived.Deep.DeepCutAuto
import Derived.Deep.RegionWith
import Derived.Laws.StructEq
namespace Go.Proofs.YtbjegfpfmnleeaaGreatDoor
open Go.RowKit
def ownOf(kind:Int):ByteArray:=(ownL[kind.toNat]?).getD ⟨#[]⟩
def namedB(h:Hd):Bool:=if h.kind<8 then(decide (h.kind≠0)&&(declB h.type||decide (h.type=ownOf h.kind)))||(decide (h.kind=0)&&decide (h.type.size=0)) else declB h.type
def ok1B(h:Hd):Bool:=namedB h&&decide (h.kind=2\/h.n=0\/(h.kind=1/\h.n=1))
def nanNo:Int:=9221120237041090561
def ok2B(h:Hd):Bool:=ok1B h&&(decide (h.f=0)||(decide (h.kind=3)&& !(decide (h.f≠nanNo)&&nanB h.f.toNat)))
def okB(h:Hd):Bool:=ok2B h&&(decide (h.s.size=0)||decide (h.kind=4/\h.s.size<=65536))
def headB(h:Hd)(len:Nat):Bool:=decide (0<=h.kind/\h.kind<=9)&&leadsB h.kind h.obj h.frm h.len h.cap h.path&&okB h&&decide (len=0\/h.kind=8)&&decide (len<=30)
def rightF:Fo->Int->Bool×Int
 | .nil,n=>(true,n)
 | .cons h k r,n=>if n-1<0 then(false,n-1) else if headB h k.len=false then(false,n-1) else if(rightF k (n-1)).1=true then rightF r (rightF k (n-1)).2 else(false,(rightF k (n-1)).2)
def rightD(h:Hd)(k:Fo)(n:Int):Bool×Int:=if n-1<0 then(false,n-1) else if headB h k.len=false then(false,n-1) else rightF k (n-1)
theorem rightF_cons(h:Hd)(k r:Fo)(n:Int):rightF (.cons h k r) n=if(rightD h k n).1=true then rightF r (rightD h k n).2 else(false,(rightD h k n).2):=by
 unfold rightD
 rw[rightF]
 by_cases h1:n-1<0
 ·simp[h1]
 ·by_cases h2:headB h k.len=false
  ·simp[h1,h2]
  ·simp[h1,h2]
theorem rightF_le: ∀(f:Fo) (n:Int),0<=n->(rightF f n).1=true->0<=(rightF f n).2/\(rightF f n).2<=n
 | .nil,n,h0,_=>⟨h0,Int.le_refl _⟩
 | .cons h k r,n,h0,ht=>by
  rw[rightF] at ht ⊢
  by_cases h1:n-1<0
  ·simp[h1] at ht
  ·by_cases h2:headB h k.len=false
   ·simp[h1,h2] at ht
   ·simp only[if_neg h1,if_neg h2] at ht ⊢
    by_cases h3:(rightF k (n-1)).1=true
    ·rw[if_pos h3] at ht ⊢
     have a:=rightF_le k (n-1) (by omega) h3
     have b:=rightF_le r _ a.1 ht
     omega
    ·rw[if_neg h3] at ht;cases ht
theorem rightD_le{h:Hd}{k:Fo}{n:Int}(h0:0<=n)(ht:(rightD h k n).1=true):0<=(rightD h k n).2/\(rightD h k n).2<=n:=by
 have e:=rightF_cons h k .nil n
 rw[if_pos ht] at e
 have:=rightF_le (.cons h k .nil) n h0 (by rw[e];rfl)
 rw[e] at this
 exact this
def RightC(h:Hd)(k:Fo):Prop:= ∀(w:World) (S:Nat->Prop) (L:Nat) (n:Int) (pa:Option Addr) (pc:Nat) (ia:Option Addr) (ic:Nat),DatAt w S h k pa pc ia ic->¬S L->L≠0->OwnAt w->
 Blk w L 3 #[.int .i64 n]-> -1000<=n->n<=1000->
 Calls Tryz.prog 94 #[.agg (h.cells pa pc ia k.len ic),.pointer (some ⟨L,0,none⟩)] w fun e w'=>
  e=.returned (.bool (rightD h k n).1)/\Blk w' L 3 #[.int .i64 (rightD h k n).2]/\w.grownBy w' (some L)
def startB(h:Hd)(n:Int):Bool:=decide (n-1<0\/h.kind<0\/9<h.kind)|| !leadsB h.kind h.obj h.frm h.len h.cap h.path
def wr1(w:World)(L:Nat)(n:Int)(cs:Array Value):World:=(w.setCell ⟨L,0,none⟩ (.int .i64 (n-1))).alloc (.cells cs 53)
theorem wr1_size(w:World)(L:Nat)(n:Int)(cs:Array Value):(wr1 w L n cs).heap.size=w.heap.size+1:=by simp[wr1,World.setCell]
theorem wr1_new(w:World)(L:Nat)(n:Int)(cs:Array Value):Blk (wr1 w L n cs) w.heap.size 53 cs:=by
 have:=Blk.new (w.setCell ⟨L,0,none⟩ (.int .i64 (n-1))) 53 cs
 simpa[World.setCell,wr1] using this
theorem wr1_old(w:World)(L:Nat)(n:Int)(cs:Array Value)(b:Nat)(hb:b<w.heap.size)(hL:b≠L):(wr1 w L n cs).heap[b]? =w.heap[b]? :=by
 unfold wr1
 rw[Below.heap_alloc _ _ _ (by simpa[World.setCell] using hb),Below.heap_setCell _ _ _ _ hL]
theorem wr1_left{w:World}{L:Nat}{n m:Int}(cs:Array Value)(h:Blk w L 3 #[.int .i64 m]):Blk (wr1 w L n cs) L 3 #[.int .i64 (n-1)]:=(h.set_ 0 (.int .i64 (n-1))).alloc _
theorem wr1_grown{w w':World}{L:Nat}{n:Int}{cs:Array Value}(h:Below (w.heap.size+1) (wr1 w L n cs) w'):w.grownBy w' (some L):=
 ⟨h.os,h.tape,h.output,by have:=h.size;rw[wr1_size] at this;omega,fun b hb hne=>(h.block b (by omega)).trans (wr1_old w L n cs b hb (fun e=>hne (by rw[e])))⟩
theorem OwnAt.grown{w w':World}{L:Nat}(h:OwnAt w)(hg:w.grownBy w' (some L))(hL0:L≠0):OwnAt w':=fun j s e=>
 (World.cell?_of_block (w:=w) (hg.block 0 (cell_lt (h j s e)) (fun e=>hL0 (by injection e with e;exact e.symm)))).trans (h j s e)
theorem OwnAt.at_{w:World}(h:OwnAt w){kind:Int}(h0:0<=kind)(h8:kind<8):w.cell? ⟨0,kind.toNat,none⟩=some (.string (ownOf kind)):=by
 have hl:kind.toNat<ownL.length:=by show _<8;omega
 refine h _ _ ?_
 unfold ownOf
 rw[List.getElem?_eq_getElem hl];rfl
theorem rightD_start{h:Hd}{k:Fo}{n:Int}(hs:startB h n=true):rightD h k n=(false,n-1):=by
 unfold rightD
 by_cases h1:n-1<0
 ·rw[if_pos h1]
 ·rw[if_neg h1,if_pos]
  unfold startB at hs
  unfold headB
  by_cases h2:h.kind<0\/9<h.kind
  ·rw[decide_eq_false (show ¬(0<=h.kind/\h.kind<=9) by omega)];simp
  ·rw[decide_eq_false (by omega)] at hs
   simp at hs
   simp[hs]
theorem rightD_ok{h:Hd}{k:Fo}{n:Int}(hs:startB h n=false):rightD h k n=if(okB h&&decide (k.len=0\/h.kind=8)&&decide (k.len<=30))=false then(false,n-1) else rightF k (n-1):=by
 unfold startB at hs
 simp only[Bool.or_eq_false_iff,decide_eq_false_iff_not,Bool.not_eq_false'] at hs
 obtain⟨h1,h2⟩:=hs
 unfold rightD headB
 rw[if_neg (by omega),decide_eq_true (show 0<=h.kind/\h.kind<=9 by omega),h2]
 simp
set_option maxRecDepth 100000 in
set_option maxHeartbeats 4000000 in
theorem right_one(h:Hd)(k:Fo)(ho:h.ok)(hk:k.ok)(ih: ∀i h' k',k.get i=some (h',k')->RightC h' k'):RightC h k:=by
 intro w S L n pa pc ia ic hd hL hL0 hown hbl n0 n1
 unfold Hd.cells
 have hLc:=hbl.cell 0
 simp at hLc
 have hLf:=hbl.frozen 0
 have hLlt:=hbl.lt
 have hold: ∀(cs:Array Value) (b:Nat),S b->b<w.heap.size->(wr1 w L n cs).heap[b]? =w.heap[b]? :=fun cs b hb hlt=>by
  exact wr1_old w L n cs b hlt (fun e=>hL (e ▸ hb))
 have hp1:PathAt (wr1 w L n (h.cells pa pc ia k.len ic)) (fun _=>True) pa h.path:=hd.path.keep (hold _) (fun _ _ _=>trivial)
 unfold wr1 Hd.cells at hp1
 have hpl:h.path.length<=9223372036854775807:=Nat.le_trans ho.path (by decide)
 go_enter Tryz.func94,Tryz.ntmps94
 go_upto_region 2 with fail
 go_cut [0,35] (fun _ t wx=>t=.bool (startB h n)/\Below (w.heap.size+1) (wr1 w L n #[.int .i64 h.kind,.string h.type,.int .i64 h.n,.int .u64 h.f,.string h.s,.int .i64 h.obj,.int .i64 h.frm,.int .i64 h.len,.int .i64 h.cap,.slice pa h.path.length pc,.slice ia k.len ic]) wx)
 case first=>
  as_aux_lemma=>
   go_wp2_with (go_at_call 111;go_must (refine(leads_any _ _ _ _ _ h.path pa pc _ hpl hp1).mono ?_);rintro e w1 ⟨rfl,hb1⟩)
   all_goals
    go_meet
    case rel=>
     refine⟨?_, ?_⟩
     ·simp_all [startB]<;>first | omega | grind
     ·unfold wr1
      first
       | exact Below.refl _ _
       | exact hb1.mono (by simp[World.setCell])
 case rest=>
  obtain⟨rfl,hbc⟩:=hcut
  clear hp1 hLc hLf
  have hlt1:w.heap.size+1<=wc.heap.size:=by have:=hbc.size;rw[wr1_size] at this;exact this
  have hbox:CellsAt wc w.heap.size 0 (h.cells pa pc ia k.len ic):=(CellsAt.of_blk (wr1_new w L n _)).below hbc (by omega)
  have hblk:Blk wc L 3 #[.int .i64 (n-1)]:=(wr1_left _ hbl).below hbc (by omega)
  have hgr:=wr1_grown hbc
  obtain⟨c0,c1,c2,c3,c4,c5,c6,c7,c8,c9,c10⟩:=hbox.box
  have hownc:OwnAt wc:=fun j s e=>(World.cell?_of_block (w:=w) (hgr.block 0 (cell_lt (hown j s e)) (fun e=>hL0 (by injection e with e;exact e.symm)))).trans (hown j s e)
  by_cases hst:startB h n=true
  ·have HD:=Lib.hid (rightD_start (k:=k) hst)
   rw[hst]
   clear hst
   go_wp2_with fail
   go_ret
   rw[HD.out]
   exact⟨rfl,hblk,hgr⟩
  ·have hst':startB h n=false:=by simpa using hst
   have HD:=Lib.hid (rightD_ok (k:=k) hst')
   rw[hst']
   have hk0:0<=h.kind/\h.kind<=9/\0<=n-1:=by
    unfold startB at hst'
    simp only[Bool.or_eq_false_iff,decide_eq_false_iff_not] at hst'
    omega
   obtain⟨hk0,hk9,hn1⟩:=hk0
   clear hst hst' hbc hown hbl
   go_wp2_with fail
   refine(declared_any _ _ hownc).mono ?_
   rintro e w1 ⟨rfl,hb1⟩
   have hgr1:=grown_below hgr hb1
   have hbox1:=hbox.below hb1 (by omega)
   have hblk1:=hblk.below hb1 (by omega)
   have hown1:=hownc.below hb1 (Nat.le_refl _)
   have hlt2:w.heap.size+1<=w1.heap.size:=Nat.le_trans hlt1 hb1.size
   clear c0 c1 c2 c3 c4 c5 c6 c7 c8 c9 c10 hb1 hlt1 hbox hblk hownc hgr
   obtain⟨c0,c1,c2,c3,c4,c5,c6,c7,c8,c9,c10⟩:=hbox1.box
   go_upto_if 41 with fail
   go_cut [5] (fun t wx=>t=.bool (namedB h)/\∃m,wx=w1.drewN m)
   case first=>
    as_aux_lemma=>
     by_cases hk8:h.kind<8
     ·have hoc:=hown1.at_ hk0 hk8
      by_cases hz:h.kind=0
      ·have hz1:(h.kind != 0)=false:=by simpa using hz
       have hz2:(h.kind==0)=true:=by simpa using hz
       by_cases hty:h.type.toList.isEmpty=true
       ·have HN:Hid (namedB h=true):=by
         have hs:=size_zero h.type (by simpa using hty)
         simp only[Hid,namedB,if_pos hk8,decide_eq_true hz,decide_eq_true hs];simp
        have HZ:=Lib.hid hz
        clear hz hoc
        go_wp2_with fail
        go_quiet (fail)
        go_wp2_with fail
        go_meet
        case rel=>exact⟨by rw[HN.out],_,rfl⟩
       ·have HN:Hid (namedB h=false):=by
         have hs:=size_pos h.type (by simpa using hty)
         simp only[Hid,namedB,hz,decide_eq_false hs];simp
        have hty':h.type.toList.isEmpty=false:=by simpa using hty
        clear hty hoc hz
        go_wp2_with fail
        go_quiet (fail)
        go_wp2_with fail
        go_meet
        case rel=>exact⟨by rw[HN.out],_,rfl⟩
      ·have hz1:(h.kind != 0)=true:=by simpa using hz
       have hz2:(h.kind==0)=false:=by simpa using hz
       have hz3:1<=h.kind:=by omega
       by_cases hdb:declB h.type=true
       ·have HN:Hid (namedB h=true):=by
         simp only[Hid,namedB,if_pos hk8,decide_eq_true hz,hdb];simp
        rw[hdb]
        clear hdb hz
        go_wp2_with fail
        go_quiet (fail)
        go_wp2_with fail
        go_meet
        case rel=>exact⟨by rw[HN.out],_,rfl⟩
       ·have hdb':declB h.type=false:=by simpa using hdb
        by_cases hty:(h.type.toList==(ownOf h.kind).toList)=true
        ·have HN:Hid (namedB h=true):=by
          have:=str_eq hty
          simp only[Hid,namedB,if_pos hk8,decide_eq_true this,decide_eq_true hz];simp
         rw[hdb']
         clear hz hdb hdb'
         go_wp2_with fail
         go_quiet (fail)
         go_wp2_with fail
         go_meet
         case rel=>exact⟨by rw[HN.out],_,rfl⟩
        ·have hty':(h.type.toList==(ownOf h.kind).toList)=false:=by simpa using hty
         have HN:Hid (namedB h=false):=by
          have:=str_ne hty'
          simp only[Hid,namedB,if_pos hk8,decide_eq_false this,decide_eq_false hz,hdb'];simp
         rw[hdb']
         clear hz hdb hdb' hty
         go_wp2_with fail
         go_quiet (fail)
         go_wp2_with fail
         go_meet
         case rel=>exact⟨by rw[HN.out],_,rfl⟩
     ·have HN:Hid (declB h.type=namedB h):=by simp only[Hid,namedB,if_neg hk8]
      have hk8':8<=h.kind:=by omega
      clear hk8
      go_wp2_with fail
      go_meet
      case rel=>exact⟨by rw[HN.out],0,rfl⟩
   case rest=>
    obtain⟨rfl,m1,rfl⟩:=hcut
    go_upto_region 7 with fail
    go_cut [5,6] (fun _ t wx=>t=.bool (ok1B h)/\wx=w1.drewN m1)
    case first=>
     as_aux_lemma=>
      by_cases hnb:namedB h=true
      ·rw[hnb]
       have HN:Hid (ok1B h=decide (h.kind=2\/h.n=0\/(h.kind=1/\h.n=1))):=by simp only[Hid,ok1B,hnb];simp
       clear hnb
       go_wp2_with fail
       all_goals
        go_meet
        case rel=>exact⟨by rw[HN.out];(first | rfl | (refine congrArg Value.bool (Bool.eq_iff_iff.2 ?_);simp only[decide_eq_true_iff,beq_iff_eq,Bool.or_eq_true,true_iff];omega)),rfl⟩
      ·have hnb':namedB h=false:=by simpa using hnb
       rw[hnb']
       have HN:Hid (ok1B h=false):=by simp only[Hid,ok1B,hnb'];simp
       clear hnb hnb'
       go_wp2_with fail
       go_meet
       case rel=>exact⟨by rw[HN.out],rfl⟩
    case rest=>
     obtain⟨rfl,rfl⟩:=hcut
     have hff:=fromBits h.f
     go_upto_region 8 with fail
     go_cut [6] (fun t wx=>t=.bool (ok2B h)/\wx=w1.drewN m1)
     case first=>
      as_aux_lemma=>
       by_cases hnb:ok1B h=true
       ·rw[hnb]
        have HN:Hid (ok2B h=(decide (h.f=0)||(decide (h.kind=3)&& !(decide (h.f≠nanNo)&&nanB h.f.toNat)))):=by simp only[Hid,ok2B,hnb];simp
        clear hnb
        go_wp2_with (go_at_call 113;refine(isNaN_any _ _).mono ?_;rintro e w' ⟨rfl,rfl⟩)
        all_goals
         go_meet
         case rel=>
          refine⟨?_,rfl⟩
          rw[HN.out]
          by_cases e1:h.f=0<;>by_cases e2:h.kind=3<;>by_cases e3:h.f=nanNo<;>unfold nanNo at e3<;>cases hN:nanB h.f.toNat<;>first | (exfalso;omega) | (simp[e1,e2,e3,nanNo];done)
       ·have hnb':ok1B h=false:=by simpa using hnb
        rw[hnb']
        have HN:Hid (ok2B h=false):=by simp only[Hid,ok2B,hnb'];simp
        clear hnb hnb'
        go_wp2_with fail
        go_meet
        case rel=>exact⟨by rw[HN.out],rfl⟩
     case rest=>
      obtain⟨rfl,rfl⟩:=hcut
      clear hff
      go_upto_region 9 with fail
      go_cut [6] (fun t wx=>t=.bool (okB h)/\wx=w1.drewN m1)
      case first=>
       as_aux_lemma=>
        by_cases hnb:ok2B h=true
        ·rw[hnb]
         have HN:Hid (okB h=(decide (h.s.size=0)||decide (h.kind=4/\h.s.size<=65536))):=by simp only[Hid,okB,hnb];simp
         clear hnb
         by_cases hse:h.s.toList.isEmpty=true
         ·have hs0:=Lib.hid (size_zero h.s (by simpa using hse))
          go_wp2_with fail
          go_meet
          case rel=>exact⟨by rw[HN.out,decide_eq_true hs0.out];rfl,rfl⟩
         ·have hs0:=Lib.hid (size_pos h.s (by simpa using hse))
          have hse':h.s.toList.isEmpty=false:=by simpa using hse
          clear hse
          go_wp2_with fail
          all_goals
           go_meet
           case rel=>exact⟨by rw[HN.out,decide_eq_false hs0.out,Bool.false_or];(first | rfl | (refine congrArg Value.bool (Bool.eq_iff_iff.2 ?_);simp only[decide_eq_true_iff,Bool.false_eq_true,false_iff,not_and];omega)),rfl⟩
        ·have hnb':ok2B h=false:=by simpa using hnb
         rw[hnb']
         have HN:Hid (okB h=false):=by simp only[Hid,okB,hnb'];simp
         clear hnb hnb'
         go_wp2_with fail
         go_meet
         case rel=>exact⟨by rw[HN.out],rfl⟩
      case rest=>
       obtain⟨rfl,rfl⟩:=hcut
       have hkl:k.len<=9223372036854775807:=Nat.le_trans hd.icLe hd.icMax.1
       go_upto_region 10 with fail
       go_cut [6,146] (fun _ t wx=>t=.bool (!(okB h&&decide (k.len=0\/h.kind=8)&&decide (k.len<=30)))/\wx=w1.drewN m1)
       case first=>
        as_aux_lemma=>
         by_cases hnb:okB h=true
         ·rw[hnb]
          go_wp2_with fail
          all_goals
           go_meet
           case rel=>exact⟨by rw[hnb,Bool.true_and];(first | rfl | (refine congrArg Value.bool (Bool.eq_iff_iff.2 ?_);simp only[decide_eq_true_iff,Bool.not_eq_true',decide_eq_false_iff_not,Bool.and_eq_false_iff,true_iff,not_or];omega)),rfl⟩
         ·have hnb':okB h=false:=by simpa using hnb
          rw[hnb']
          go_wp2_with fail
          go_meet
          case rel=>exact⟨by rw[hnb'];rfl,rfl⟩
       case rest=>
        obtain⟨rfl,rfl⟩:=hcut
        by_cases hq:(okB h&&decide (k.len=0\/h.kind=8)&&decide (k.len<=30))=false
        ·have HD2:=HD.out
         rw[if_pos hq] at HD2
         have HE:=Lib.hid HD2
         rw[hq]
         clear hq HD HD2
         go_wp2_with fail
         go_ret
         rw[HE.out]
         exact⟨rfl,hblk1.drewN _,grown_drewN hgr1 _⟩
        ·have hq':(okB h&&decide (k.len=0\/h.kind=8)&&decide (k.len<=30))=true:=by revert hq;cases (okB h&&decide (k.len=0\/h.kind=8)&&decide (k.len<=30))<;>simp
         have HD2:=HD.out
         rw[if_neg hq] at HD2
         have HE:=Lib.hid HD2
         rw[hq']
         clear hq HD HD2 hq' c0 c1 c2 c3 c4 c5 c6 c7 c8 c9 hbox1 hlt2 hold
         go_wp2_with fail
         go_loopg [150] k.len (fun g i wr=> ∃(j:Nat) (m:Int),j<=k.len/\i=.int .i64 j/\g=k.len-j/\w.grownBy wr (some L)/\Blk wr L 3 #[.int .i64 m]/\OwnAt wr/\0<=m/\m<=1000/\rightF k (n-1)=rightF (k.drop j) m)
         case atStart=>exact⟨0,n-1,by omega,rfl,by omega,grown_drewN hgr1 _,hblk1.drewN _,hown1,by omega,by omega,by simp⟩
         case round=>
          obtain⟨j,m,hj,rfl,rfl,hg,hb,how,hm0,hm1,hn⟩:=hrel
          have HN:=Lib.hid hn
          clear hn c10 hgr1 hblk1 hown1
          by_cases hlt:j<k.len
          ·obtain⟨h',k',hget⟩:=Fo.get_lt k j hlt
           have hks:SlAt wr S ia k:=hd.kids.keep (fun b hb hlt=>hg.block b hlt (fun e=>hL (by injection e with e;rw[<-e];exact hb))) (fun _ h _=>h)
           obtain⟨b,o,rfl,hSb,pa',pc',ia',ic',hcs,hda⟩:=hks.get hget
           obtain⟨d0,d1,d2,d3,d4,d5,d6,d7,d8,d9,d10⟩:=hcs.eleven
           obtain⟨ho',hk',_⟩:=Fo.ok_get k j h' k' hk hget
           have HDr:=Lib.hid (Fo.drop_get k j h' k' hget)
           have hLc:=hb.cell 0
           simp at hLc
           have hLf:=hb.frozen 0
           have hLlt2:=hb.lt
           have hih:=ih j h' k' hget (wr.alloc (.cells (h'.cells pa' pc' ia' k'.len ic') 53)) S L m pa' pc' ia' ic'
            (hda.keep (fun b _ h=>Below.heap_alloc _ _ _ h) (fun _ h _=>h)) hL hL0 (how.below ((Below.refl _ _).alloc (Nat.le_refl _) _) (Nat.le_refl _)) (hb.alloc _) (by omega) (by omega)
           unfold Hd.cells at hih
           have HI:=Lib.hid hih
           have hle:=fun hm=>rightD_le (h:=h') (k:=k') hm0 hm
           have HL:=Lib.hid hle
           clear hih hget hcs hda ho' hk' hks hle
           go_wp2_with fail
           refine HI.out.mono ?_
           rintro e w2 ⟨rfl,hb2,hg2⟩
           have hg3:=grown_trans (grown_alloc hg _) hg2
           have hlt3:wr.heap.size<w2.heap.size:=by have:=hg2.size;simp at this;omega
           by_cases hr:(rightD h' k' m).1=true
           ·have hle:=HL.out hr
            rw[hr]
            have HR:=Lib.hid hr
            have how2:=(how.below ((Below.refl _ _).alloc (Nat.le_refl _) _) (Nat.le_refl _)).grown hg2 hL0
            clear hr HL HI
            go_wp2_with fail
            go_roundg (k.len-(j+1))
            case measure=>omega
            case rel=>exact⟨j+1,_,by omega,by go_num,rfl,hg3,hb2,how2,hle.1,by omega,by rw[HN.out,HDr.out,rightF_cons,if_pos HR.out]⟩
           ·have hr':(rightD h' k' m).1=false:=by simpa using hr
            rw[hr']
            have HR:=Lib.hid hr'
            clear hr hr' HL HI
            go_wp2_with fail
            go_ret
            have e:rightD h k n=(false,(rightD h' k' m).2):=by rw[HE.out,HN.out,HDr.out,rightF_cons,if_neg (by rw[HR.out];simp)]
            rw[e]
            exact⟨rfl,hb2,hg3⟩
          ·have hjl:j=k.len:=by omega
           subst hjl
           go_wp2_with fail
           go_ret
           have e:rightD h k n=(true,m):=by rw[HE.out,HN.out,Fo.drop_len k _ (Nat.le_refl _)];rfl
           rw[e]
           exact⟨rfl,hb,hg⟩
theorem right_all: ∀(f:Fo),f.ok->∀i h k,f.get i=some (h,k)->RightC h k
 | .nil,_,i,h,k,e=>by simp[Fo.get] at e
 | .cons h' k' r,o,0,h,k,e=>by
  simp only[Fo.get,Option.some.injEq,Prod.mk.injEq] at e
  obtain⟨rfl,rfl⟩:=e
  exact right_one _ _ o.1 o.2.1 (right_all k' o.2.1)
 | .cons h' k' r,o,i+1,h,k,e=>right_all r o.2.2.1 i h k e
theorem right_any(h:Hd)(k:Fo)(ho:h.ok)(hk:k.ok):RightC h k:=right_one h k ho hk (right_all k hk)
def rightB(h:Hd)(k:Fo):Bool:=(rightD h k 100).1
set_option maxHeartbeats 400000 in
theorem Right_any(h:Hd)(k:Fo)(ho:h.ok)(hk:k.ok)(w:World)(S:Nat->Prop)(pa:Option Addr)(pc:Nat)(ia:Option Addr)(ic:Nat)(hd:DatAt w S h k pa pc ia ic)(hown:OwnAt w):
  Calls Tryz.prog 65 #[.agg (h.cells pa pc ia k.len ic)] w fun e w'=>e=.returned (.bool (rightB h k))/\Below w.heap.size w w':=by
 have hz:0<w.heap.size:=cell_lt (hown 0 _ rfl)
 unfold Hd.cells
 go_enter Tryz.func65,Tryz.ntmps65
 go_wp2_with fail
 have hr:=right_any h k ho hk ((w.alloc (.cells (h.cells pa pc ia k.len ic) 53)).alloc (.cells #[.int .i64 100] 3)) (fun b=>b<w.heap.size) (w.heap.size+1) 100 pa pc ia ic
  (hd.keep (fun b _ h=>(Below.heap_alloc _ _ _ (by simp;omega)).trans (Below.heap_alloc _ _ _ h)) (fun b _ h=>h)) (by omega) (by omega)
  (hown.below (((Below.refl _ _).alloc (Nat.le_refl _) _).alloc (by simp) _) (Nat.le_refl _)) (by have:=Blk.new (w.alloc (.cells (h.cells pa pc ia k.len ic) 53)) 3 #[.int .i64 100];simpa using this) (by omega) (by omega)
 unfold Hd.cells at hr
 refine hr.mono ?_
 rintro e w1 ⟨rfl,_,hg⟩
 have hb:Below w.heap.size w w1:=(((Below.refl _ _).alloc (Nat.le_refl _) _).alloc (by simp) _).trans ⟨hg.os,hg.tape,hg.output,hg.size,fun b hb=>hg.block b (by simp;omega) (fun e=>by injection e;omega)⟩
 clear hr hg
 go_wp2_with fail
 go_ret
 exact⟨rfl,hb⟩
end Go.Proofs.YtbjegfpfmnleeaaGreatDoor

namespace Go.Proofs.YtbjegfpfmnleeaaGreatDoor
open Go.RowKit Go.Sort
set_option maxHeartbeats 400000 in
theorem kindOf_any(h:Hd)(k:Nat)(pa:Option Addr)(pc:Nat)(ia:Option Addr)(ic:Nat)(w:World):
  Calls Tryz.prog 131 #[.agg (h.cells pa pc ia k ic)] w fun e w'=>e=.returned (.agg #[.int .i64 h.kind,.string h.type])/\Below w.heap.size w w':=by
 unfold Hd.cells
 go_enter Tryz.func131,Tryz.ntmps131
 go_wp2_with fail
 exact bodyPost_ret (v:=.agg #[.int .i64 h.kind,.string h.type]) (by simp[results,Tryz.results131,go_sem]) rfl ⟨rfl,bz⟩
set_option maxHeartbeats 800000 in
theorem sEqual_any(l m:List Int)(pa qa:Option Addr)(pc qc:Nat)(w:World)(S T:Nat->Prop)(hl:l.length<=9223372036854775807)(_hm:m.length<=9223372036854775807)(hp:PathAt w S pa l)(hq:PathAt w T qa m):
  Calls Tryz.prog 132 #[.slice pa l.length pc,.slice qa m.length qc] w fun e w'=>e=.returned (.bool (decide (l=m)))/\Below w.heap.size w w':=by
 by_cases hlm:l.length=m.length
 ·have hne:((l.length:Int) != (m.length:Int))=false:=by simp[hlm]
  have HLM:=Lib.hid hlm
  clear hlm
  go_enter Tryz.func132,Tryz.ntmps132
  go_wp2_with fail
  go_loopg [13] l.length (fun g i wr=> ∃(k n:Nat),k<=l.length/\i=.int .i64 k/\g=l.length-k/\wr=w.drewN n/\∀j,j<k->l[j]? =m[j]?)
  case atStart=>exact⟨0,0,by omega,rfl,by omega,rfl,by omega⟩
  case round=>
   obtain⟨k,n,hk,rfl,rfl,rfl,hn⟩:=hrel
   have HN:=Lib.hid hn
   clear hn
   by_cases hlt:k<l.length
   ·obtain⟨x,hx⟩: ∃x,l[k]? =some x:=⟨_,List.getElem?_eq_getElem hlt⟩
    have hlt2:k<m.length:=by rw[<-HLM.out];exact hlt
    obtain⟨y,hy⟩: ∃y,m[k]? =some y:=⟨_,List.getElem?_eq_getElem hlt2⟩
    obtain⟨b,o,rfl,_,hc⟩:=hp.get hx
    obtain⟨b2,o2,rfl,_,hc2⟩:=hq.get hy
    have HX:=Lib.hid hx
    have HY:=Lib.hid hy
    clear hx hy
    have hk0:(0:Int)<=(k:Int):=by omega
    have hk1:(k:Int)<(l.length:Int):=by omega
    have hk2:(k:Int)<(m.length:Int):=by omega
    go_wp2_with fail
    go_quiet (fail)
    go_wp2_with fail
    ·go_ret
     have hxy:x≠y:=by simpa using ‹(x != y)=true›
     refine⟨ret_bool (decide_eq_false fun e=>hxy ?_).symm,bz⟩
     have h1:=HX.out
     rw[e,HY.out] at h1
     injection h1 with h1
     exact h1.symm
    ·go_roundg (l.length-(k+1))
     case measure=>omega
     case rel=>
      have hxy:x=y:=by simpa using ‹(x != y)=false›
      refine⟨k+1,_,by omega,by go_num,rfl,rfl,fun j hj=> ?_⟩
      by_cases hjk:j=k
      ·subst hjk;rw[HX.out,HY.out,hxy]
      ·exact HN.out j (by omega)
   ·have hkl:k=l.length:=by omega
    subst hkl
    go_wp2_with fail
    go_ret
    refine⟨ret_bool (decide_eq_true ?_).symm,below_drewN (Below.refl _ _) _⟩
    exact List.ext_getElem? fun j=>by
     rcases Nat.lt_or_ge j l.length with hj | hj
     ·exact HN.out j hj
     ·rw[List.getElem?_eq_none hj,List.getElem?_eq_none (by rw[<-HLM.out];exact hj)]
 ·have hne:((l.length:Int) != (m.length:Int))=true:=by rw[bne_iff_ne];omega
  have HLM:=Lib.hid hlm
  clear hlm
  go_enter Tryz.func132,Tryz.ntmps132
  go_wp2_with fail
  go_ret
  exact⟨ret_bool (decide_eq_false fun e=>HLM.out (by rw[e])).symm,Below.refl _ _⟩
def emp:ByteArray:=⟨#[]⟩
def oneB(h h':Hd):Bool:=decide (h.kind=h'.kind/\h.type=h'.type)
def equalH(h h':Hd):Bool×ByteArray:=
 if h.kind=3 then(feqB h.f.toNat h'.f.toNat,emp)
 else if h.kind=5\/h.kind=6\/h.kind=7 then(false,h.type)
 else if h.kind=9 then(decide (h.obj=h'.obj/\h.path=h'.path),emp)
 else(decide (h.n=h'.n/\h.s=h'.s),emp)
def equalF:Fo->Fo->Bool×ByteArray
 | .cons h k r,.cons h' k' r'=>
  if(if oneB h h'=false then(false,emp) else if h.kind=8 then(if k.len≠k'.len then(false,emp) else equalF k k') else equalH h h').1=true then equalF r r'
  else(false,(if oneB h h'=false then(false,emp) else if h.kind=8 then(if k.len≠k'.len then(false,emp) else equalF k k') else equalH h h').2)
 | _,_=>(true,emp)
def equalD(h:Hd)(k:Fo)(h':Hd)(k':Fo):Bool×ByteArray:=if oneB h h'=false then(false,emp) else if h.kind=8 then(if k.len≠k'.len then(false,emp) else equalF k k') else equalH h h'
theorem equalF_cons(h:Hd)(k r:Fo)(h':Hd)(k' r':Fo):equalF (.cons h k r) (.cons h' k' r')=if(equalD h k h' k').1=true then equalF r r' else(false,(equalD h k h' k').2):=by
 rw[equalF];rfl
def EqualC(h:Hd)(k:Fo)(h':Hd)(k':Fo):Prop:= ∀(w:World) (S T:Nat->Prop) (pa:Option Addr) (pc:Nat) (ia:Option Addr) (ic:Nat) (pa':Option Addr) (pc':Nat) (ia':Option Addr) (ic':Nat),
 DatAt w S h k pa pc ia ic->DatAt w T h' k' pa' pc' ia' ic'->
 Calls Tryz.prog 119 #[.agg (h.cells pa pc ia k.len ic),.agg (h'.cells pa' pc' ia' k'.len ic')] w fun e w'=>e=.returned (.tuple #[.bool (equalD h k h' k').1,.string (equalD h k h' k').2])/\Below w.heap.size w w'
theorem neqKind(h h':Hd)(w:World):(binOp .neq 219 (.agg #[.int .i64 h.kind,.string h.type]) (.agg #[.int .i64 h'.kind,.string h'.type])).run Tryz.prog w=.ok (.bool (!oneB h h')) w:=by
 have e:oneB h h'=decide (h.kind=h'.kind/\h.type.toList=h'.type.toList):=by
  unfold oneB
  rw[decide_eq_decide]
  exact⟨fun⟨a,b⟩=>⟨a,by rw[b]⟩,fun⟨a,b⟩=>⟨a,str_eq (by simpa using b)⟩⟩
 rw[e]
 simp[go_sem,Tryz.underlying219]
 by_cases h1:h.kind=h'.kind<;>by_cases h2:h.type.toList=h'.type.toList<;>simp[h1,h2]
set_option maxRecDepth 100000 in
set_option maxHeartbeats 4000000 in
theorem equal_one(h:Hd)(k:Fo)(h':Hd)(k':Fo)(ho:h.ok)(_hk:k.ok)(ho':h'.ok)(_hk':k'.ok)(ih: ∀i a b a' b',k.get i=some (a,b)->k'.get i=some (a',b')->EqualC a b a' b'):EqualC h k h' k':=by
 intro w S T pa pc ia ic pa' pc' ia' ic' hd hd'
 unfold Hd.cells
 go_enter Tryz.func119,Tryz.ntmps119
 go_upto_region 0 with fail
 go_cut [0,1,2,3] (fun _ _ t2 t3 wx=>t2=.pointer (some ⟨w.heap.size,0,none⟩)/\t3=.pointer (some ⟨w.heap.size+1,0,none⟩)/\Blk wx w.heap.size 53 (h.cells pa pc ia k.len ic)/\Blk wx (w.heap.size+1) 53 (h'.cells pa' pc' ia' k'.len ic')/\Below w.heap.size w wx)
 case first=>
  go_wp2_with fail
  go_meet
  case rel=>exact⟨rfl,rfl,(Blk.new _ _ _).alloc _,Blk.new1 _ _ _ _,bz⟩
 case rest=>
  obtain⟨rfl,rfl,hA,hB,hbw⟩:=hcut
  obtain⟨k0,k1,k2,k3,k4,k5,k6,k7,k8,k9,k10⟩:=(CellsAt.of_blk hA).boxrg
  obtain⟨l0,l1,l2,l3,l4,l5,l6,l7,l8,l9,l10⟩:=(CellsAt.of_blk hB).boxrg
  obtain⟨w0,rfl⟩: ∃w0:World,w0=wc:=⟨_,rfl⟩
  have hnk:=neqKind h h'
  go_upto_region 1 with fail
  go_cut [13] (fun t wx=>t=.bool (!oneB h h')/\Below w0.heap.size w0 wx)
  case first=>
   as_aux_lemma=>
    refine wp_region_below (by kernel_rfl) (by kernel_rfl) ?_
    repeat (quiet_step ((first | (go_at_call_of 131 (Value.string h.type);exact Calls.regrown_of (kindOf_any h k.len pa pc ia ic _)) | (go_at_call_of 131 (Value.string h'.type);exact Calls.regrown_of (kindOf_any h' k'.len pa' pc' ia' ic' _)))))
    refine wpQuiet_nil ?_
    intro w1 hb1
    go_wp2_with fail
    go_meet
    case rel=>exact⟨rfl,hb1⟩
  case rest=>
  obtain⟨rfl,hb1⟩:=hcut
  obtain⟨w1,rfl⟩: ∃w1:World,w1=wc:=⟨_,rfl⟩
  have hbw1:=hbw.trans (hb1.mono hbw.size)
  by_cases hone:oneB h h'=false
  ·have HD:Hid (equalD h k h' k'=(false,emp)):=by unfold Hid equalD;rw[if_pos hone]
   rw[show(!oneB h h')=true by rw[hone];rfl]
   clear hone hnk
   go_wp2_with fail
   go_ret2
   rw[HD.out]
   exact⟨rfl,hbw1⟩
  have hone':oneB h h'=true:=by simpa using hone
  have HD:Hid (equalD h k h' k'=if h.kind=8 then(if k.len≠k'.len then(false,emp) else equalF k k') else equalH h h'):=by unfold Hid equalD;rw[if_neg hone]
  rw[show(!oneB h h')=false by rw[hone'];rfl]
  have hlA:=hA.lt
  have hlB:=hB.lt
  have hA1:=hA.below hb1 hlA
  have hB1:=hB.below hb1 hlB
  have hd1:=hd.below (hbw.trans (hb1.mono hbw.size)) (fun b _ h=>h)
  have hd1':=hd'.below (hbw.trans (hb1.mono hbw.size)) (fun b _ h=>h)
  clear k0 k1 k2 k3 k4 k5 k6 k7 k8 k9 k10 l0 l1 l2 l3 l4 l5 l6 l7 l8 l9 l10 hone hone' hnk hA hB hb1 hbw hd hd' hlA hlB
  obtain⟨c0,c1,c2,c3,c4,c5,c6,c7,c8,c9,c10⟩:=(CellsAt.of_blk hA1).box
  obtain⟨d0,d1,d2,d3,d4,d5,d6,d7,d8,d9,d10⟩:=(CellsAt.of_blk hB1).box
  have hpl:h.path.length<=9223372036854775807:=Nat.le_trans ho.path (by decide)
  have hpl':h'.path.length<=9223372036854775807:=Nat.le_trans ho'.path (by decide)
  have hkl:k.len<=9223372036854775807:=Nat.le_trans hd1.icLe hd1.icMax.1
  have hkl':k'.len<=9223372036854775807:=Nat.le_trans hd1'.icLe hd1'.icMax.1
  by_cases q3:h.kind=3
  ·as_aux_lemma=>
    obtain⟨k0,k1,k2,k3,k4,k5,k6,k7,k8,k9,k10⟩:=(CellsAt.of_blk hA1).boxrg
    obtain⟨l0,l1,l2,l3,l4,l5,l6,l7,l8,l9,l10⟩:=(CellsAt.of_blk hB1).boxrg
    have HE:Hid (equalD h k h' k'=(feqB h.f.toNat h'.f.toNat,emp)):=by unfold Hid;rw[HD.out,if_neg (by omega)];unfold equalH;rw[if_pos q3]
    clear HD
    have hf1:=fromBits h.f
    have hf2:=fromBits h'.f
    have hf3:=feq h.f.toNat h'.f.toNat
    go_wp2_with fail
    refine wp_region_below (by kernel_rfl) (by kernel_rfl) ?_
    repeat (quiet_step ((fail)))
    refine wpQuiet_nil ?_
    intro w2 hb2
    go_wp2_with fail
    go_ret2
    rw[HE.out]
    exact⟨rfl,bz⟩
  by_cases q5:h.kind=5\/h.kind=6\/h.kind=7
  ·as_aux_lemma=>
    obtain⟨k0,k1,k2,k3,k4,k5,k6,k7,k8,k9,k10⟩:=(CellsAt.of_blk hA1).boxrg
    have HE:Hid (equalD h k h' k'=(false,h.type)):=by unfold Hid;rw[HD.out,if_neg (by omega)];unfold equalH;rw[if_neg q3,if_pos q5]
    clear HD q3
    rcases q5 with q5 | q5 | q5
    all_goals
     go_wp2_with fail
     refine wp_region_below (by kernel_rfl) (by kernel_rfl) ?_
     repeat (quiet_step ((fail)))
     refine wpQuiet_nil ?_
     intro w2 hb2
     go_wp2_with fail
     go_ret2
     rw[HE.out]
     exact⟨rfl,bz⟩
  by_cases q9:h.kind=9
  ·as_aux_lemma=>
    have HE:Hid (equalD h k h' k'=(decide (h.obj=h'.obj/\h.path=h'.path),emp)):=by unfold Hid;rw[HD.out,if_neg (by omega)];unfold equalH;rw[if_neg q3,if_neg q5,if_pos q9]
    clear HD q3 q5
    by_cases qo:h.obj=h'.obj
    ·have qob:(h.obj==h'.obj)=true:=by simpa using qo
     have HO:=Lib.hid qo
     clear qo
     go_wp2_with (go_at_call 132;refine(sEqual_any h.path h'.path pa pa' pc pc' w1 S T hpl hpl' hd1.path hd1'.path).mono ?_;rintro e w2 ⟨rfl,hb2⟩)
     go_ret2
     rw[HE.out]
     exact⟨by simp[HO.out,emp],bz⟩
    ·have qob:(h.obj==h'.obj)=false:=by simpa using qo
     have HO:=Lib.hid qo
     clear qo
     go_wp2_with fail
     go_ret2
     rw[HE.out]
     exact⟨by simp[HO.out,emp],bz⟩
  by_cases q8:h.kind=8
  ·rw[if_pos q8] at HD
   clear q3 q5 q9 c1 c2 c3 c4 c5 c6 c7 c8 c9 d1 d2 d3 d4 d5 d6 d7 d8 d9
   by_cases ql:k.len=k'.len
   ·have qlb:((k.len:Int) != (k'.len:Int))=false:=by simp[ql]
    have HE:Hid (equalD h k h' k'=equalF k k'):=by unfold Hid;rw[HD.out,if_neg (by simp[ql])]
    have HLQ:=Lib.hid ql
    clear HD ql
    go_wp2_with fail
    go_loopg [61] k.len (fun g i wr=> ∃j:Nat,j<=k.len/\i=.int .i64 j/\g=k.len-j/\Below w.heap.size w wr/\Below w1.heap.size w1 wr/\equalF k k'=equalF (k.drop j) (k'.drop j))
    case atStart=>exact⟨0,by omega,rfl,by omega,hbw1,Below.refl _ _,by simp⟩
    case round=>
     obtain⟨j,hj,rfl,rfl,hg,hg1,hn⟩:=hrel
     have HN:=Lib.hid hn
     clear hn c0 c10 d0 d10
     have hA2:=hA1.below hg1 hA1.lt
     have hB2:=hB1.below hg1 hB1.lt
     have hd2:=hd1.below hg1 (fun b _ h=>h)
     have hd2':=hd1'.below hg1 (fun b _ h=>h)
     by_cases hlt:j<k.len
     ·obtain⟨a,b,hget⟩:=Fo.get_lt k j hlt
      obtain⟨a',b',hget'⟩:=Fo.get_lt k' j (by rw[<-HLQ.out];exact hlt)
      obtain⟨g1,o1,rfl,_,qa,qc,ja,jc,hcs,hda⟩:=hd2.kids.get hget
      obtain⟨g2,o2,rfl,_,qa',qc',ja',jc',hcs',hda'⟩:=hd2'.kids.get hget'
      have HDr:=Lib.hid (Fo.drop_get k j a b hget)
      have HDr':=Lib.hid (Fo.drop_get k' j a' b' hget')
      have hih:=fun d os=>ih j a b a' b' hget hget' (grow (redrawn wr d) os) S T qa qc ja jc qa' qc' ja' jc' (hda.below (below_regrown wr d os) (fun b _ h=>h)) (hda'.below (below_regrown wr d os) (fun b _ h=>h))
      unfold Hd.cells at hih
      have HI:=Lib.hid hih
      obtain⟨_,_,_,_,_,_,_,_,_,_,k10⟩:=(CellsAt.of_blk hA2).boxrg
      obtain⟨_,_,_,_,_,_,_,_,_,_,l10⟩:=(CellsAt.of_blk hB2).boxrg
      obtain⟨m0,m1,m2,m3,m4,m5,m6,m7,m8,m9,m10⟩:=hcs.rg
      obtain⟨n0,n1,n2,n3,n4,n5,n6,n7,n8,n9,n10⟩:=hcs'.rg
      have hj0:(0:Int)<=(j:Int):=by omega
      have hj1:(j:Int)<(k.len:Int):=by omega
      have hj2:(j:Int)<(k'.len:Int):=by have:=HLQ.out;omega
      clear hih hget hget' hcs hcs' hda hda'
      go_wp2_with fail
      refine wp_region_below (by kernel_rfl) (by kernel_rfl) ?_
      repeat (quiet_step ((exact Calls.regrown_of (HI.out _ _))))
      refine wpQuiet_nil ?_
      intro w2 hb2
      by_cases hr:(equalD a b a' b').1=true
      ·have HR:=Lib.hid hr
       rw[hr]
       clear hr
       have hs2:=hg.size
       have hs3:=hg1.size
       go_wp2_with fail
       go_roundg (k.len-(j+1))
       case measure=>omega
       case rel=>exact⟨j+1,by omega,by go_num,rfl,bz,bz,by rw[HN.out,HDr.out,HDr'.out,equalF_cons,if_pos HR.out]⟩
      ·have hr':(equalD a b a' b').1=false:=by simpa using hr
       have HR:=Lib.hid hr'
       rw[hr']
       clear hr hr'
       go_wp2_with fail
       go_ret2
       have e:equalD h k h' k'=(false,(equalD a b a' b').2):=by rw[HE.out,HN.out,HDr.out,HDr'.out,equalF_cons,if_neg (by rw[HR.out];simp)]
       rw[e]
       exact⟨rfl,bz⟩
     ·have hjl:j=k.len:=by omega
      subst hjl
      go_wp2_with fail
      go_ret2
      have e:equalD h k h' k'=(true,emp):=by rw[HE.out,HN.out,Fo.drop_len k _ (Nat.le_refl _)];rfl
      rw[e]
      exact⟨rfl,bz⟩
   ·as_aux_lemma=>
     have qlb:((k.len:Int) != (k'.len:Int))=true:=by rw[bne_iff_ne];omega
     have HE:Hid (equalD h k h' k'=(false,emp)):=by unfold Hid;rw[HD.out,if_pos ql]
     clear HD ql
     go_wp2_with fail
     go_ret2
     rw[HE.out]
     exact⟨rfl,bz⟩
  ·as_aux_lemma=>
    have HE:Hid (equalD h k h' k'=(decide (h.n=h'.n/\h.s=h'.s),emp)):=by unfold Hid;rw[HD.out,if_neg q8];unfold equalH;rw[if_neg q3,if_neg q5,if_neg q9]
    have q30:(h.kind==3)=false:=by simpa using q3
    have q50:(h.kind==5)=false:=by rw[beq_eq_false_iff_ne];omega
    have q60:(h.kind==6)=false:=by rw[beq_eq_false_iff_ne];omega
    have q70:(h.kind==7)=false:=by rw[beq_eq_false_iff_ne];omega
    have q80:(h.kind==8)=false:=by simpa using q8
    have q90:(h.kind==9)=false:=by simpa using q9
    clear HD q3 q5 q8 q9
    by_cases qo:h.n=h'.n
    ·have qob:(h.n==h'.n)=true:=by simpa using qo
     have HO:=Lib.hid qo
     clear qo
     go_wp2_with fail
     go_ret2
     rw[HE.out]
     exact⟨by simp[HO.out,emp,beq_str],bz⟩
    ·have qob:(h.n==h'.n)=false:=by simpa using qo
     have HO:=Lib.hid qo
     clear qo
     go_wp2_with fail
     go_ret2
     rw[HE.out]
     exact⟨by simp[HO.out,emp],bz⟩
theorem equal_all: ∀(f:Fo),f.ok->∀(g:Fo) (i:Nat) (a:Hd) (b:Fo) (a':Hd) (b':Fo),g.ok->f.get i=some (a,b)->g.get i=some (a',b')->EqualC a b a' b'
 | .nil,_,g,i,a,b,a',b',_,e,_=>by simp[Fo.get] at e
 | .cons h k r,o,g,0,a,b,a',b',og,e,e'=>by
  simp only[Fo.get,Option.some.injEq,Prod.mk.injEq] at e
  obtain⟨rfl,rfl⟩:=e
  obtain⟨o1,o2,_⟩:=Fo.ok_get g 0 a' b' og e'
  exact equal_one _ _ _ _ o.1 o.2.1 o1 o2 (fun i c d c' d' e e'=>equal_all k o.2.1 b' i c d c' d' o2 e e')
 | .cons h k r,o,.nil,i+1,a,b,a',b',og,e,e'=>by simp[Fo.get] at e'
 | .cons h k r,o,.cons h2 k2 r2,i+1,a,b,a',b',og,e,e'=>equal_all r o.2.2.1 r2 i a b a' b' og.2.2.1 e e'
theorem equal_any(h:Hd)(k:Fo)(h':Hd)(k':Fo)(ho:h.ok)(hk:k.ok)(ho':h'.ok)(hk':k'.ok):EqualC h k h' k':=
 equal_one h k h' k' ho hk ho' hk' (fun i a b a' b' e e'=>equal_all k hk k' i a b a' b' hk' e e')
def heldS(h:Hd)(k:Fo):ByteArray:=(equalD h k h k).2
set_option maxHeartbeats 400000 in
theorem held_any(h:Hd)(k:Fo)(ho:h.ok)(hk:k.ok)(w:World)(S:Nat->Prop)(pa:Option Addr)(pc:Nat)(ia:Option Addr)(ic:Nat)(hd:DatAt w S h k pa pc ia ic):
  Calls Tryz.prog 128 #[.agg (h.cells pa pc ia k.len ic)] w fun e w'=>e=.returned (.string (heldS h k))/\Below w.heap.size w w':=by
 have he:=equal_any h k h k ho hk ho hk (w.alloc (.cells (h.cells pa pc ia k.len ic) 53)) S S pa pc ia ic pa pc ia ic (hd.keep (fun b _ h=>Below.heap_alloc _ _ _ h) (fun _ h _=>h)) (hd.keep (fun b _ h=>Below.heap_alloc _ _ _ h) (fun _ h _=>h))
 unfold Hd.cells at he ⊢
 have HE:=Lib.hid he
 clear he
 go_enter Tryz.func128,Tryz.ntmps128
 go_wp2_with fail
 refine HE.out.mono ?_
 rintro e w1 ⟨rfl,hb1⟩
 go_wp2_with fail
 go_ret
 exact⟨rfl,bz⟩
end Go.Proofs.YtbjegfpfmnleeaaGreatDoor
