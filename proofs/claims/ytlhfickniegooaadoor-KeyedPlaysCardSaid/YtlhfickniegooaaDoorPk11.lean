/-
   Written by an AI agent.
-/
import Derived.Test.YtlhfickniegooaaDoorPk10
import Derived.Test.YtlhfickniegooaaDoorPk08
import Derived.Deep.CutBlock
namespace Go.Proofs.YtlhfickniegooaaDoor
open Go.RowKit Go.Sort
theorem first_zero(s:ByteArray)(h:s.size=0):firstB s=false:=by simp[firstB,h]
theorem first_long(s:ByteArray)(h:40<s.size):firstB s=false:=by simp[firstB];omega
theorem first_mid(s:ByteArray)(h0:0<s.size)(h:s.size<=40):firstB s=decide ((s[0].toNat:Int)<48\/57<(s[0].toNat:Int)):=by
 unfold firstB
 have:s.data.toList=s[0]::s.data.toList.tail:=by
  cases hl:s.data.toList with
  | nil=>have:=size_zero s (by rw[Lib.toList_data];exact hl);omega
  | cons b r=>
   have e:s.data.toList[0]? =some b:=by rw[hl];rfl
   have e2:s.data.toList[0]? =some s[0]:=by rw[List.getElem?_eq_getElem (by simpa using h0)];rfl
   rw[e] at e2;injection e2 with e2;rw[e2];rfl
 rw[this,decide_eq_true (show s.size≠0/\s.size<=40 by omega)]
 simp
theorem chars_snoc(s:ByteArray)(k:Nat)(h:k<s.size):charsB (s.data.toList.take (k+1))=(charsB (s.data.toList.take k)&&charB (s[k].toNat:Int)):=by
 rw[List.take_succ_eq_append_getElem (by simpa using h)]
 unfold charsB
 rw[List.all_append]
 simp
 rfl
theorem chars_false{l:List UInt8}{k:Nat}(h:charsB (l.take k)=false):charsB l=false:=by
 unfold charsB at*
 rw[List.all_eq_false] at*
 obtain⟨x,hx,h⟩:=h
 exact⟨x,List.mem_of_mem_take hx,h⟩
theorem char_dec{c:Int}{b:Bool}(h:b=true↔((97<=c/\c<=122)\/(65<=c/\c<=90)\/(48<=c/\c<=57)\/c=95)):b=charB c:=by
 rw[Bool.eq_iff_iff,h,charB,decide_eq_true_iff]
theorem none_snoc(s:ByteArray)(l:List ByteArray)(k:Nat)(x:ByteArray)(h:l[k]? =some x):noneOf s (l.take (k+1))=(noneOf s (l.take k)&& !(s.toList==x.toList)):=by
 obtain⟨hk,rfl⟩:=List.getElem?_eq_some_iff.1 h
 rw[List.take_succ_eq_append_getElem hk]
 unfold noneOf
 rw[List.all_append,beq_str]
 simp
set_option maxRecDepth 100000 in
set_option maxHeartbeats 2000000 in
theorem rdecl_any(s:ByteArray)(hs:s.size<=140737488351232)(w:World):
  Calls Tryd.prog 84 #[.string s] w fun e w'=>e=.returned (.bool (declB s))/\Below w.heap.size w w':=by
 rw[decl_law]
 go_enter Tryd.func84,Tryd.ntmps84
 go_upto_region 1 with fail
 go_cut [3] (fun t wx=>t=.bool (firstB s)/\w=wx)
 case first=>
  rcases Nat.eq_zero_or_pos s.size with h0 | h0
  ·have HF:=Lib.hid (first_zero s h0)
   have hl:s.toList=[]:=by rw[Lib.toList_data];exact List.eq_nil_of_length_eq_zero (by simpa using h0)
   clear h0
   go_wp2_with fail
   go_meet
   case rel=>exact⟨by rw[HF.out],rfl⟩
  have hl:s.toList.isEmpty=false:=by
   cases e:s.toList with
   | nil=>have:=size_zero s e;omega
   | cons=>rfl
  rcases Nat.lt_or_ge 40 s.size with h1 | h1
  ·have HF:=Lib.hid (first_long s h1)
   have h2:(40:Int)<(s.size:Int):=by omega
   go_wp2_with fail
   go_meet
   case rel=>exact⟨by rw[HF.out],rfl⟩
  ·have h2:(s.size:Int)<=40:=by omega
   have HF:=Lib.hid (first_mid s h0 h1)
   go_wp2
   all_goals
    go_meet
    case rel=>exact⟨by rw[HF.out];refine congrArg Value.bool ?_;rw[Bool.eq_iff_iff];first | (simp;omega) | (simp;done),rfl⟩
 case rest=>
 obtain⟨rfl,rfl⟩:=hcut
 go_upto_block 0 with fail
 go_cut [3] (fun t wx=>t=.bool (firstB s&&charsB s.data.toList)/\w=wx)
 case first=>
  go_wp2_with fail
  go_loopg [3,4] s.size (fun g t i wr=> ∃k:Nat,k<=s.size/\i=.int .i64 k/\g=s.size-k/\t=.bool (firstB s&&charsB (s.data.toList.take k))/\w=wr)
  case atStart=>exact⟨0,by omega,rfl,by omega,by simp[charsB],rfl⟩
  case round=>
  obtain⟨k,hk,rfl,rfl,rfl,rfl⟩:=hrel
  obtain⟨b,hb⟩: ∃b,(firstB s&&charsB (s.data.toList.take k))=b:=⟨_,rfl⟩
  rw[hb]
  have HB:=Lib.hid hb
  clear hb
  by_cases hlt:k<s.size
  ·cases b
   ·go_wp2_with fail
    go_meet
    case rel=>
     refine⟨?_,rfl⟩
     have:=HB.out
     rw[Bool.and_eq_false_iff] at this
     rcases this with h | h
     ·rw[h];rfl
     ·rw[chars_false h];simp
   ·have HS:=Lib.hid (chars_snoc s k hlt)
    have hx0:(0:Int)<=(s[k].toNat:Int):=by omega
    have hx1:(s[k].toNat:Int)<=255:=by have:=s[k].toNat_lt;omega
    go_wp2
    all_goals
     go_roundg (s.size-(k+1))
     case measure=>omega
     case rel=>
      refine⟨k+1,by omega,by go_num,rfl, ?_,rfl⟩
      rw[HS.out,<-Bool.and_assoc,HB.out]
      refine congrArg Value.bool ?_
      rw[Bool.true_and]
      refine char_dec ?_
      first | (simp;omega) | omega
  ·have hkl:k=s.size:=by omega
   subst hkl
   go_wp2_with fail
   go_meet
   case rel=>
    refine⟨?_,rfl⟩
    rw[<-HB.out,List.take_of_length_le (by simp)]
 case rest=>
 obtain⟨rfl,rfl⟩:=hcut
 obtain⟨i0,hi,hz0,hz1,hz2⟩:=info_parts info_str
 have hown:((w.alloc (.cells namesC 9)).alloc (.cells #[.string ⟨#[97,110,121]⟩,.string ⟨#[110,105,108]⟩,.string ⟨#[115,116,114,117,99,116]⟩] 9)).ownsRow w.heap.size 9 1 (.slice (some ⟨w.heap.size,0,none⟩) 7 7) 7 (names7.map Value.string):=
  ⟨rfl,.inr ⟨w.heap.size,7,namesC,rfl,Nat.le_refl _,(Blk.new w _ _).alloc _,by decide,by decide,rfl,rfl⟩⟩
 have hnew: ∀(j:Nat) (u:Value),(names3.map Value.string)[j]? =some u->((w.alloc (.cells namesC 9)).alloc (.cells #[.string ⟨#[97,110,121]⟩,.string ⟨#[110,105,108]⟩,.string ⟨#[115,116,114,117,99,116]⟩] 9)).cell? ((⟨w.heap.size+1,0,none⟩:Addr).add j)=some u:=by
  intro j u hu
  rw[add_addr,Nat.zero_add,(Blk.new1 w _ _ _).cell]
  simpa[names3] using hu
 have HOWN:=Lib.hid hown
 have HNEW:=Lib.hid hnew
 clear hown hnew
 unfold namesC at HOWN HNEW
 have HB2:Hid (Below w.heap.size w ((w.alloc (.cells namesC 9)).alloc (.cells #[.string ⟨#[97,110,121]⟩,.string ⟨#[110,105,108]⟩,.string ⟨#[115,116,114,117,99,116]⟩] 9))):=Lib.hid (bl_alloc (bl_alloc (Below.refl _ _) _) _)
 unfold namesC at HB2
 go_wp2_with (first
  | (go_at_call 88;refine(rown_any _).mono ?_;unfold namesC;rintro e w1 ⟨rfl,rfl⟩)
  | (at_builtin;refine wpList_append_own_at _ rfl (.tmp 63) (.tmp 64) _ rfl w.heap.size 9 i0 _ 1 16 Tryd.underlying168 hi hz0 hz1 hz2 rfl (by omega) (.slice (some ⟨w.heap.size,0,none⟩) 7 7) 7 (names7.map Value.string) rfl HOWN.out ⟨w.heap.size+1,0,none⟩ 3 3 (names3.map Value.string) rfl rfl HNEW.out (by decide) (by decide) (by decide) (by simp;omega) ?_;intro v' w' hown' hgrow _ _))
 have hbw:Below w.heap.size w w':=HB2.out.grown hgrow (by simp;omega) (by intro k hk;simp[Value.ownBlock] at hk;omega)
 obtain⟨pa',pc',hv,hst,hpl,hpm⟩:=own_strs (l:=names10) (show w'.ownsRow w.heap.size 9 1 v' (7+3) (names10.map Value.string) from hown')
 have hv:v'=.slice pa' 10 pc':=hv
 subst hv
 clear hown' hgrow HOWN HNEW HB2
 have HBW:=Lib.hid hbw
 have HST:=Lib.hid hst
 clear hbw hst
 obtain⟨b0,hb0⟩: ∃b,(firstB s&&charsB s.data.toList)=b:=⟨_,rfl⟩
 rw[hb0]
 have HB0:=Lib.hid hb0
 clear hb0
 go_loopg [3,7] 10 (fun g t i wr=> ∃k:Nat,k<=10/\i=.int .i64 k/\g=10-k/\t=.bool (b0&&noneOf s (names10.take k))/\w'=wr)
 case atStart=>exact⟨0,by omega,rfl,by omega,by simp[noneOf],rfl⟩
 case round=>
 obtain⟨k,hk,rfl,rfl,rfl,rfl⟩:=hrel
 by_cases hlt:k<10
 ·obtain⟨b,hb⟩: ∃b,(b0&&noneOf s (names10.take k))=b:=⟨_,rfl⟩
  rw[hb]
  have HB:=Lib.hid hb
  clear hb
  obtain⟨x,hx⟩: ∃x,names10[k]? =some x:=⟨_,List.getElem?_eq_getElem (by exact hlt)⟩
  obtain⟨pb,po,rfl,hcell⟩:=HST.out.get hx
  have HS:=Lib.hid (none_snoc s names10 k x hx)
  clear hx
  cases b
  ·go_wp2_with fail
   go_roundg (10-(k+1))
   case measure=>omega
   case rel=>exact⟨k+1,by omega,by go_num,rfl,by rw[HS.out,<-Bool.and_assoc,HB.out];rfl,rfl⟩
  ·go_wp2_with fail
   go_roundg (10-(k+1))
   case measure=>omega
   case rel=>exact⟨k+1,by omega,by go_num,rfl,by rw[HS.out,<-Bool.and_assoc,HB.out];rfl,rfl⟩
 have hkl:k=10:=by omega
 subst hkl
 go_wp2_with fail
 go_ret
 refine⟨?_,HBW.out⟩
 rw[HB0.out]
 rfl
end Go.Proofs.YtlhfickniegooaaDoor

namespace Go.Proofs.YtlhfickniegooaaDoor
open Go.RowKit Go.Sort
def typedB(kind:Int)(s:ByteArray):Bool:=declB s||decide (s=ownOf kind)
set_option maxRecDepth 100000 in
set_option maxHeartbeats 2000000 in
theorem rtyped_any(kind:Int)(h1:1<=kind)(h7:kind<=7)(s:ByteArray)(hs:s.size<=140737488351232)(w:World):
  Calls Tryd.prog 81 #[.int .i64 kind,.string s] w fun e w'=>e=.returned (.bool (typedB kind s))/\Below w.heap.size w w':=by
 have HT:Hid (∀x,ownOf kind=x->typedB kind s=(declB s||(s.toList==x.toList))):=Lib.hid (fun x hx=>by rw[typedB,hx,beq_str])
 obtain⟨x,hx,hc⟩: ∃x,ownOf kind=x/\(w.alloc (.cells namesC 9)).cell? ⟨w.heap.size,kind.toNat-1,none⟩=some (.string x):=by
  refine⟨_,rfl, ?_⟩
  rw[(Blk.new w _ _).cell]
  have:kind=1\/kind=2\/kind=3\/kind=4\/kind=5\/kind=6\/kind=7:=by omega
  rcases this with rfl | rfl | rfl | rfl | rfl | rfl | rfl<;>rfl
 have HE:=Lib.hid (HT.out x hx)
 have HC:=Lib.hid hc
 clear HT hx hc
 go_enter Tryd.func81,Tryd.ntmps81
 go_wp2_with fail
 refine(rown_any _).mono ?_
 rintro e w1 ⟨rfl,rfl⟩
 go_wp2_with fail
 refine(rdecl_any s hs _).mono ?_
 rintro e w1 ⟨rfl,hb1⟩
 have hc1:=(hb1.cell (p:=⟨w.heap.size,kind.toNat-1,none⟩) (by simp)).trans HC.out
 have hbw:Below w.heap.size w w1:=bl_trans (bl_alloc (Below.refl _ _) _) hb1
 clear HC hb1
 have HBW:=Lib.hid hbw
 clear hbw
 cases hd:declB s
 ·rw[hd] at HE
  go_wp2_with fail
  go_ret
  exact⟨ret_bool HE.out.symm,HBW.out⟩
 ·rw[hd] at HE
  go_wp2_with fail
  go_ret
  exact⟨ret_bool HE.out.symm,HBW.out⟩
def kind4(kind:Int):Prop:=kind=5\/kind=6\/kind=7\/kind=9
theorem leads_zero{kind f l c:Int}{p:List Int}(hk:kind4 kind):leadsB kind 0 f l c p=plainB 0 f l c p.length:=by
 unfold kind4 at hk
 unfold leadsB plainB
 rw[if_neg (by omega)]
 by_cases h5:kind=5
 ·rw[if_pos h5,Bool.eq_iff_iff];simp
 ·rw[if_neg h5,if_pos (by omega)]
  split
  ·symm;rw[decide_eq_false_iff_not];omega
  ·have hp:p=[]:=List.eq_nil_of_length_eq_zero (by omega)
   subst hp
   rw[decide_eq_true (by simp;omega)];rfl
theorem leads_bad{kind o f l c:Int}{p:List Int}(hk:kind4 kind)(h:o<0\/2147483647<o\/(kind≠9/\0<p.length)\/100<p.length):leadsB kind o f l c p=false:=by
 unfold kind4 at hk
 unfold leadsB
 split
 ·rfl
 ·split
  ·rw[decide_eq_false (by omega)];rfl
  ·rw[if_pos (by omega),if_pos (by omega)]
theorem leads_out{kind o f l c:Int}{p:List Int}(hk:kind4 kind)(h:anyOut p=true):leadsB kind o f l c p=false:=by
 unfold kind4 at hk
 have hp:0<p.length:=by
  cases p with
  | nil=>simp[anyOut] at h
  | cons=>simp
 unfold leadsB
 split
 ·rfl
 ·split
  ·rw[decide_eq_false (by omega)];rfl
  ·rw[if_pos (by omega),h];simp
theorem leads_list{o f l c:Int}{p:List Int}(h0:o≠0)(h1:0<=o)(h2:o<=2147483647)(hp:p.length=0):leadsB 5 o f l c p=decide (0<=f/\0<=l/\l<=c/\f<=1048576/\c<=1048576-f):=by
 unfold leadsB plainB
 rw[if_neg (by omega),if_pos rfl,decide_eq_true hp,Bool.true_and,decide_eq_false (by omega),Bool.false_or,decide_eq_decide]
 omega
theorem leads_rest{kind o f l c:Int}{p:List Int}(hk:kind4 kind)(h5:kind≠5)(h0:o≠0)(h1:0<=o)(h2:o<=2147483647)(hp:kind≠9->p.length=0)(hl:p.length<=100)(ha:anyOut p=false):leadsB kind o f l c p=decide (f=0/\l=0/\c=0):=by
 unfold kind4 at hk
 unfold leadsB
 rw[if_neg (by omega),if_neg h5,if_pos (by omega),ha]
 split
 ·symm;rw[decide_eq_false_iff_not];omega
 ·symm;simp;omega
set_option maxRecDepth 100000 in
set_option maxHeartbeats 2000000 in
theorem rleads_any(kind o f l c:Int)(hk:kind4 kind)(p:List Int)(pa:Option Addr)(pc:Nat)(w:World)(hl:p.length<=9223372036854775807)(hf:okInt f)(hp:PathAt w (fun _=>True) pa p):
    Calls Tryd.prog 82 #[.int .i64 kind,.agg #[.int .i64 o,.int .i64 f,.int .i64 l,.int .i64 c,.slice pa p.length pc]] w
      fun e w'=>e=.returned (.bool (leadsB kind o f l c p))/\Below w.heap.size w w':=by
  by_cases ho:o=0
  · subst ho
    have HL:=Lib.hid (leads_zero (f:=f) (l:=l) (c:=c) (p:=p) hk)
    clear hk
    go_enter Tryd.func82,Tryd.ntmps82
    go_wp2_with (go_at_call 87;refine(rnone_any _ _ _ _ _ _ _ _).mono ?_;rintro e w1 ⟨rfl,hb1⟩)
    go_ret
    exact⟨ret_bool HL.out.symm,bz⟩
  by_cases hbad:o<0\/2147483647<o\/(kind≠9/\0<p.length)\/100<p.length
  · have HL:=Lib.hid (leads_bad (f:=f) (l:=l) (c:=c) hk hbad)
    have HB:=Lib.hid hbad
    clear hk hbad
    go_enter Tryd.func82,Tryd.ntmps82
    go_upto_block 0 with fail
    all_goals first
      | (exfalso;have:=HB.out;omega)
      | (exfalso;have h9:=HB.out;have h8:=congrArg List.length ‹p=[]›;simp only[List.length_nil] at h8;omega)
      | (go_ret;exact⟨ret_bool HL.out.symm,bz⟩)
      | (go_wp2_with fail;go_ret;exact⟨ret_bool HL.out.symm,bz⟩)
  have hb0:0<=o:=by omega
  have hb1:o<=2147483647:=by omega
  have hb2:kind≠9->p.length=0:=fun h=>by omega
  have hb3:(p.length:Int)<=100:=by omega
  by_cases h9:kind=9
  · subst h9
    have hpw:=hp.keep (w':=w.alloc (.cells #[.int .i64 o,.int .i64 f,.int .i64 l,.int .i64 c,.slice pa p.length pc] 28)) (fun b _ h=>Below.heap_alloc _ _ _ h) (S':=fun _=>True) (fun _ _ _=>trivial)
    have HP:=Lib.hid hpw
    have HO:=Lib.hid (fun ha=>leads_out (o:=o) (f:=f) (l:=l) (c:=c) (p:=p) hk ha)
    have HL:=Lib.hid (fun ha=>leads_rest (f:=f) (l:=l) (c:=c) (p:=p) hk (by decide) ho hb0 hb1 hb2 (by omega) ha)
    clear hk hp hpw hb2 hbad hf
    go_enter Tryd.func82,Tryd.ntmps82
    go_wp2_with fail
    go_loopg [5] p.length (fun g i wr=> ∃k:Nat,k<=p.length/\i=.int .i64 k/\g=p.length-k/\(w.alloc (.cells #[.int .i64 o,.int .i64 f,.int .i64 l,.int .i64 c,.slice pa p.length pc] 28))=wr/\∀j y,j<k->p[j]? =some y->outB y=false)
    case atStart=>exact⟨0,by omega,rfl,by omega,rfl,by omega⟩
    case round=>
    obtain⟨k,hk,rfl,rfl,rfl,hn⟩:=hrel
    have HN:=Lib.hid hn
    clear hn
    by_cases hlt:k<p.length
    · obtain⟨x,hx⟩: ∃x,p[k]? =some x:=⟨_,List.getElem?_eq_getElem hlt⟩
      obtain⟨b,o',rfl,_,hc⟩:=HP.out.get hx
      have HX:=Lib.hid hx
      clear hx
      go_wp2
      all_goals first
        | (go_roundg (p.length - (k + 1))
           case measure=>omega
           case rel=>
             refine⟨k+1,by omega,by go_num,rfl,rfl,fun j y hj hy=> ?_⟩
             by_cases hjk:j=k
             · subst hjk
               rw[HX.out] at hy
               injection hy with hy
               subst hy
               exact decide_eq_false (by omega)
             · exact HN.out j y (by omega) hy)
        | (go_ret
           refine⟨ret_bool (HO.out (List.any_eq_true.2 ⟨x,List.mem_of_getElem? HX.out,decide_eq_true (by omega)⟩)).symm,bz⟩)
    · have hkl:k=p.length:=by omega
      subst hkl
      have ha:anyOut p=false:=by
        rw[anyOut,List.any_eq_false]
        intro x hx
        obtain⟨j,hj,e⟩:=List.mem_iff_getElem.1 hx
        rw[HN.out j x hj (by rw[List.getElem?_eq_getElem hj,e])];simp
      have HF:=Lib.hid (HL.out ha)
      clear ha
      go_wp2
      all_goals
        go_ret
        refine⟨congrArg Ending.returned ?_,bz⟩
        rw[HF.out]
        first | rfl | (refine congrArg Value.bool (Bool.eq_iff_iff.2 ?_);simp;done) | (refine congrArg Value.bool (Bool.eq_iff_iff.2 ?_);simp;omega)
  · have hp0:p=[]:=List.eq_nil_of_length_eq_zero (hb2 h9)
    subst hp0
    by_cases h5:kind=5
    · subst h5
      have HL:=Lib.hid (leads_list (f:=f) (l:=l) (c:=c) (p:=[]) ho hb0 hb1 rfl)
      obtain⟨hf0,hf1⟩:=hf
      clear hk hp hb2 hbad hb3
      go_enter Tryd.func82,Tryd.ntmps82
      go_wp2
      go_loopg [5] 0 (fun g i wr=>i=.int .i64 0/\(w.alloc (.cells #[.int .i64 o,.int .i64 f,.int .i64 l,.int .i64 c,.slice pa 0 pc] 28))=wr)
      case atStart=>exact⟨rfl,rfl⟩
      case round=>
      obtain⟨rfl,rfl⟩:=hrel
      go_wp2
      all_goals
        go_ret
        refine⟨congrArg Ending.returned ?_,bz⟩
        rw[HL.out]
        first | rfl | (refine congrArg Value.bool (Bool.eq_iff_iff.2 ?_);simp;done) | (refine congrArg Value.bool (Bool.eq_iff_iff.2 ?_);simp;omega)
    · have HL:=Lib.hid (leads_rest (f:=f) (l:=l) (c:=c) (p:=[]) hk h5 ho hb0 hb1 (fun _=>rfl) (by simp) (by rfl))
      clear hk hp hb2 hbad hb3
      go_enter Tryd.func82,Tryd.ntmps82
      go_wp2
      go_loopg [5] 0 (fun g i wr=>i=.int .i64 0/\(w.alloc (.cells #[.int .i64 o,.int .i64 f,.int .i64 l,.int .i64 c,.slice pa 0 pc] 28))=wr)
      case atStart=>exact⟨rfl,rfl⟩
      case round=>
      obtain⟨rfl,rfl⟩:=hrel
      go_wp2
      all_goals
        go_ret
        refine⟨congrArg Ending.returned ?_,bz⟩
        rw[HL.out]
        first | rfl | (refine congrArg Value.bool (Bool.eq_iff_iff.2 ?_);simp;done) | (refine congrArg Value.bool (Bool.eq_iff_iff.2 ?_);simp;omega)
end Go.Proofs.YtlhfickniegooaaDoor

namespace Go.Proofs.YtlhfickniegooaaDoor
theorem leads_other{kind o f l c:Int}{p:List Int}(h5:kind≠5)(h6:kind≠6)(h7:kind≠7)(h9:kind≠9):leadsB kind o f l c p=plainB o f l c p.length:=by
 unfold leadsB
 split
 ·symm;unfold plainB;rw[decide_eq_false_iff_not];omega
 ·rw[if_neg (by omega)]
theorem nan_zero:nanB 0=false:=by decide
theorem size0(s:ByteArray):decide (s.size=0)=s.toList.isEmpty:=(rempty_iff s).symm
theorem head_no{h:Hd}{n:Nat}(hk:h.kind<0\/9<h.kind):headB h n=false:=by
 unfold headB;rw[decide_eq_false (by omega)];rfl
theorem head_open(h:Hd)(n:Nat)(h0:0<=h.kind)(h9:h.kind<=9):headB h n=(leadsB h.kind h.obj h.frm h.len h.cap h.path&&(namedB h&&(decide (h.kind=2\/h.n=0\/(h.kind=1/\h.n=1))&&((decide (h.f=0)||(decide (h.kind=3)&& !(decide (h.f≠nanNo)&&nanB h.f.toNat)))&&((h.s.toList.isEmpty||decide (h.kind=4/\h.s.size<=65536))&&(decide (n=0\/h.kind=8)&&decide (n<=30))))))):=by
 unfold headB okB ok2B ok1B
 rw[decide_eq_true (show 0<=h.kind/\h.kind<=9 from⟨h0,h9⟩),size0,Bool.true_and]
 simp only[Bool.and_assoc]
theorem head0(h:Hd)(n:Nat)(hk:h.kind=0):headB h n=(h.type.toList.isEmpty&&rplainB h n false false false false false):=by
 rw[head_open h n (by omega) (by omega),hk,leads_other (by decide) (by decide) (by decide) (by decide)]
 unfold namedB rplainB
 rw[hk,size0]
 rw[Bool.eq_iff_iff]
 simp
 grind
theorem head12(h:Hd)(n:Nat)(hk:h.kind=1\/h.kind=2):headB h n=(typedB h.kind h.type&&(rplainB h n true false false false false&&decide (h.kind=2\/h.n=0\/h.n=1))):=by
 rw[head_open h n (by omega) (by omega),leads_other (by omega) (by omega) (by omega) (by omega)]
 unfold namedB rplainB typedB
 rcases hk with hk | hk
 all_goals
  rw[hk]
  rw[Bool.eq_iff_iff]
  simp
  grind
theorem head3(h:Hd)(n:Nat)(hk:h.kind=3):headB h n=(typedB 3 h.type&&(rplainB h n false true false false false&&(!nanB h.f.toNat||decide (h.f=nanNo)))):=by
 rw[head_open h n (by omega) (by omega),hk,leads_other (by decide) (by decide) (by decide) (by decide)]
 unfold namedB rplainB typedB
 rw[hk]
 by_cases h0:h.f=0
 ·rw[h0]
  rw[Bool.eq_iff_iff]
  simp[nan_zero]
  grind
 ·rw[Bool.eq_iff_iff]
  simp[h0]
  grind
theorem head4(h:Hd)(n:Nat)(hk:h.kind=4):headB h n=(typedB 4 h.type&&(rplainB h n false false true false false&&decide (h.s.size<=65536))):=by
 rw[head_open h n (by omega) (by omega),hk,leads_other (by decide) (by decide) (by decide) (by decide)]
 unfold namedB rplainB typedB
 rw[hk]
 have he:h.s.toList.isEmpty=true->h.s.size<=65536:=fun e=>by rw[rempty_iff] at e;have:=of_decide_eq_true e;omega
 by_cases h6:h.s.size<=65536
 ·rw[Bool.eq_iff_iff]
  simp[h6]
  grind
 ·have:h.s.toList.isEmpty=false:=by
   cases e:h.s.toList.isEmpty with
   | true=>exact absurd (he e) h6
   | false=>rfl
  rw[this]
  simp[h6]
theorem head567(h:Hd)(n:Nat)(hk:h.kind=5\/h.kind=6\/h.kind=7):headB h n=(typedB h.kind h.type&&(rplainB h n false false false true false&&leadsB h.kind h.obj h.frm h.len h.cap h.path)):=by
 rw[head_open h n (by omega) (by omega)]
 unfold namedB rplainB typedB
 generalize leadsB h.kind h.obj h.frm h.len h.cap h.path=lb
 rcases hk with hk | hk | hk
 all_goals
  rw[hk]
  rw[Bool.eq_iff_iff]
  simp
  grind
theorem head8(h:Hd)(n:Nat)(hk:h.kind=8):headB h n=(declB h.type&&(rplainB h n false false false false true&&decide (n<=30))):=by
 rw[head_open h n (by omega) (by omega),hk,leads_other (by decide) (by decide) (by decide) (by decide)]
 unfold namedB rplainB
 rw[hk]
 rw[Bool.eq_iff_iff]
 simp
 grind
theorem head9(h:Hd)(n:Nat)(hk:h.kind=9):headB h n=(declB h.type&&(rplainB h n false false false true false&&leadsB 9 h.obj h.frm h.len h.cap h.path)):=by
 rw[head_open h n (by omega) (by omega),hk]
 unfold namedB rplainB
 rw[hk]
 rw[Bool.eq_iff_iff]
 simp
 grind
theorem rr_leaf(d:Int)(h:Hd)(k:Fo)(h8:h.kind≠8)(hd:d<=100):rrD d h k=headB h k.len:=by
 unfold rrD
 rw[decide_eq_true hd,Bool.true_and]
 by_cases hh:headB h k.len=true
 ·have:=Fo.len_eq_zero k ((headB_kids hh).1 h8)
  subst this
  simp[rrF]
 ·have:headB h k.len=false:=by revert hh;cases headB h k.len<;>simp
  rw[this];rfl
end Go.Proofs.YtlhfickniegooaaDoor

namespace Go.Proofs.YtlhfickniegooaaDoor
def reqH(h h':Hd):Bool×Option ByteArray:=
 if h.kind=1\/h.kind=2 then(decide (h.n=h'.n),none) else if h.kind=4 then(decide (h.s=h'.s),none)
 else if h.kind=3 then(feqB h.f.toNat h'.f.toNat,none) else if h.kind=5\/h.kind=6\/h.kind=7 then(false,some h.type)
 else if h.kind=9 then(decide (h.obj=h'.obj/\h.path=h'.path),none) else(true,none)
def reqF:Fo->Fo->Bool×Option ByteArray
 | .cons h k r,.cons h' k' r'=>
  if(if oneB h h'=false then(false,none) else if h.kind=8 then(if k.len≠k'.len then(false,none) else reqF k k') else reqH h h').1=true then reqF r r'
  else(false,(if oneB h h'=false then(false,none) else if h.kind=8 then(if k.len≠k'.len then(false,none) else reqF k k') else reqH h h').2)
 | _,_=>(true,none)
def reqD(h:Hd)(k:Fo)(h':Hd)(k':Fo):Bool×Option ByteArray:=if oneB h h'=false then(false,none) else if h.kind=8 then(if k.len≠k'.len then(false,none) else reqF k k') else reqH h h'
theorem reqF_cons(h:Hd)(k r:Fo)(h':Hd)(k' r':Fo):reqF (.cons h k r) (.cons h' k' r')=if(reqD h k h' k').1=true then reqF r r' else(false,(reqD h k h' k').2):=by
 rw[reqF];rfl
def fault(o:Option ByteArray):Value:=match o with | none=>.agg #[.string ⟨#[]⟩,.string ⟨#[]⟩] | some m=>.agg #[.string ⟨#[99,111,109,112,97,114,101]⟩,.string m]
end Go.Proofs.YtlhfickniegooaaDoor

namespace Go.Proofs.YtlhfickniegooaaDoor
open Go.RowKit Go.Sort Go.BigFrame
def sameHd(h h':Hd):Bool:=oneB h h'&&(h.n==h'.n&&(h.f==h'.f&&(decide (h.s=h'.s)&&(h.obj==h'.obj&&(h.frm==h'.frm&&(h.len==h'.len&&h.cap==h'.cap))))))
def sameF:Fo->Fo->Bool
 | .nil,.nil=>true
 | .cons h k r,.cons h' k' r'=>sameHd h h'&&decide (h.path=h'.path)&&sameF k k'&&sameF r r'
 | _,_=>false
def sameD(h:Hd)(k:Fo)(h':Hd)(k':Fo):Bool:=sameHd h h'&&decide (h.path=h'.path)&&sameF k k'
theorem sameF_len: ∀(f g:Fo),sameF f g=true->f.len=g.len
 | .nil,.nil,_=>rfl
 | .cons h k r,.cons h' k' r',e=>by
  simp only[sameF,Bool.and_eq_true] at e
  simp only[Fo.len]
  rw[sameF_len r r' e.2]
 | .nil,.cons ..,e=>by simp[sameF] at e
 | .cons ..,.nil,e=>by simp[sameF] at e
end Go.Proofs.YtlhfickniegooaaDoor

namespace Go.Proofs.YtlhfickniegooaaDoor
open Go.RowKit Go.Sort Go.BigFrame
inductive Er | ok | wrong | fault (word more:ByteArray)
def ErrAt(w w':World)(v:Value):Er->Prop
 | .ok=>v=.nilIface
 | .wrong=>WrongAt w w' v
 | .fault a b=>FaultAt w w' v a b
def Er.told(word more:ByteArray):Er->Bool
 | .ok=>decide (word=emp)
 | .wrong=>false
 | .fault a b=>decide (word≠emp)&&decide (a=word/\b=more)
theorem ErrAt.keep{w w1 w2:World}{v:Value}{e:Er}(h:ErrAt w w1 v e)(hb:Below w1.heap.size w1 w2):ErrAt w w2 v e:=by
 cases e with
 | ok=>exact h
 | wrong=>exact WrongAt.keep h hb
 | fault a b=>exact FaultAt.keep h hb
theorem ErrAt.from{w0 w w1:World}{v:Value}{e:Er}(h:ErrAt w w1 v e)(hb:w0.heap.size<=w.heap.size):ErrAt w0 w1 v e:=by
 cases e with
 | ok=>exact h
 | wrong=>exact WrongAt.from h hb
 | fault a b=>exact FaultAt.from h hb
end Go.Proofs.YtlhfickniegooaaDoor

namespace Go.Proofs.YtlhfickniegooaaDoor
open Go.RowKit Go.Sort
theorem head_facts{h:Hd}{n:Nat}(hh:headB h n=true):0<=h.kind/\h.kind<=9/\(h.kind=2\/h.kind=1\/h.n=0)/\(h.kind=4\/h.s.size=0)/\namedB h=true:=by
 simp only[headB,okB,ok2B,ok1B,Bool.and_eq_true,Bool.or_eq_true,decide_eq_true_iff] at hh
 obtain⟨⟨⟨⟨h1,_⟩,⟨⟨h2,h3⟩,_⟩,h4⟩,_⟩,_⟩:=hh
 exact⟨h1.1,h1.2,by omega,by omega,h2⟩
theorem size_emp{s:ByteArray}(h:s.size=0):s=emp:=by
 obtain⟨⟨l⟩⟩:=s
 have:l=[]:=List.eq_nil_of_length_eq_zero h
 subst this
 rfl
theorem named_type{h:Hd}(hn:namedB h=true)(h5:h.kind=5\/h.kind=6\/h.kind=7):h.type≠emp:=by
 intro e
 have hd:declB h.type=false:=by rw[e];decide
 unfold namedB at hn
 rw[hd,e] at hn
 rcases h5 with h5 | h5 | h5<;>rw[h5] at hn<;>revert hn<;>decide
def conv(p:Bool×ByteArray):Bool×Option ByteArray:=(p.1,if p.2=emp then none else some p.2)
theorem eqH_law{h h':Hd}{n n':Nat}(h1:headB h n=true)(h2:headB h' n'=true)(ho:oneB h h'=true)(_h8:h.kind≠8):reqH h h'=conv (equalH h h'):=by
 obtain⟨a0,a9,an,asz,ant⟩:=head_facts h1
 obtain⟨b0,b9,bn,bs,_⟩:=head_facts h2
 have hk:h.kind=h'.kind:=(of_decide_eq_true ho).1
 unfold reqH equalH conv
 by_cases h12:h.kind=1\/h.kind=2
 ·have e1:=size_emp (show h.s.size=0 by omega)
  have e2:=size_emp (show h'.s.size=0 by omega)
  rw[if_pos h12,if_neg (by omega),if_neg (by omega),if_neg (by omega),e1,e2]
  simp
 rw[if_neg h12]
 by_cases h4:h.kind=4
 ·rw[if_pos h4,if_neg (by omega),if_neg (by omega),if_neg (by omega),show h.n=h'.n by omega]
  simp
 rw[if_neg h4]
 by_cases h3:h.kind=3
 ·rw[if_pos h3,if_pos h3];simp
 rw[if_neg h3,if_neg h3]
 by_cases h5:h.kind=5\/h.kind=6\/h.kind=7
 ·rw[if_pos h5,if_pos h5]
  simp[named_type ant h5]
 rw[if_neg h5,if_neg h5]
 by_cases h9:h.kind=9
 ·rw[if_pos h9,if_pos h9];simp
 ·have e1:=size_emp (show h.s.size=0 by omega)
  have e2:=size_emp (show h'.s.size=0 by omega)
  rw[if_neg h9,if_neg h9,e1,e2,show h.n=h'.n by omega]
  simp
theorem eqD_law'{h h':Hd}{k k':Fo}(h1:headB h k.len=true)(h2:headB h' k'.len=true)(hF:reqF k k'=conv (equalF k k')):reqD h k h' k'=conv (equalD h k h' k'):=by
 unfold reqD equalD
 by_cases ho:oneB h h'=false
 ·rw[if_pos ho,if_pos ho];rfl
 have ho':oneB h h'=true:=by revert ho;cases oneB h h'<;>simp
 rw[if_neg ho,if_neg ho]
 by_cases h8:h.kind=8
 ·rw[if_pos h8,if_pos h8]
  by_cases hl:k.len≠k'.len
  ·rw[if_pos hl,if_pos hl];rfl
  ·rw[if_neg hl,if_neg hl];exact hF
 ·rw[if_neg h8,if_neg h8];exact eqH_law h1 h2 ho' h8
theorem eqF_law: ∀(f g:Fo),okF f=true->okF g=true->reqF f g=conv (equalF f g)
 | .nil,g,_,_=>by simp[reqF,equalF,conv]
 | .cons h k r,.nil,_,_=>by simp[reqF,equalF,conv]
 | .cons h k r,.cons h' k' r',e,e'=>by
  simp only[okF,Bool.and_eq_true] at e e'
  have hk:=eqF_law k k' e.1.2 e'.1.2
  have hr:=eqF_law r r' e.2 e'.2
  rw[reqF_cons,equalF_cons,eqD_law' e.1.1 e'.1.1 hk]
  by_cases ht:(equalD h k h' k').1=true
  ·rw[if_pos ht,if_pos (show(conv (equalD h k h' k')).1=true from ht)];exact hr
  ·rw[if_neg ht,if_neg (show ¬(conv (equalD h k h' k')).1=true from ht)];rfl
theorem right_ok{h:Hd}{k:Fo}(hr:rightB h k=true):headB h k.len=true/\okF k=true:=by
 unfold rightB rightD at hr
 rw[if_neg (by decide)] at hr
 by_cases h1:headB h k.len=false
 ·rw[if_pos h1] at hr;cases hr
 rw[if_neg h1,(rightF_ok k _ (by decide)).1,Bool.and_eq_true] at hr
 exact⟨by revert h1;cases headB h k.len<;>simp,hr.1⟩
theorem eq_law{h h':Hd}{k k':Fo}(h1:rightB h k=true)(h2:rightB h' k'=true):reqD h k h' k'=conv (equalD h k h' k'):=
 eqD_law' (right_ok h1).1 (right_ok h2).1 (eqF_law k k' (right_ok h1).2 (right_ok h2).2)
theorem equalH_no{h h':Hd}(h2:(equalH h h').2≠emp):(equalH h h').1=false:=by
 unfold equalH at*
 by_cases h3:h.kind=3
 ·rw[if_pos h3] at h2;exact absurd rfl h2
 rw[if_neg h3] at h2 ⊢
 by_cases h5:h.kind=5\/h.kind=6\/h.kind=7
 ·rw[if_pos h5]
 rw[if_neg h5] at h2 ⊢
 by_cases h9:h.kind=9
 ·rw[if_pos h9] at h2;exact absurd rfl h2
 ·rw[if_neg h9] at h2;exact absurd rfl h2
theorem equalF_no: ∀(f g:Fo),(equalF f g).2≠emp->(equalF f g).1=false
 | .nil,g,h=>by simp[equalF] at h
 | .cons h k r,.nil,e=>by simp[equalF] at e
 | .cons h k r,.cons h' k' r',e=>by
  rw[equalF_cons] at e ⊢
  by_cases ht:(equalD h k h' k').1=true
  ·rw[if_pos ht] at e ⊢;exact equalF_no r r' e
  ·rw[if_neg ht]
theorem equalD_no{h h':Hd}{k k':Fo}(e:(equalD h k h' k').2≠emp):(equalD h k h' k').1=false:=by
 unfold equalD at*
 by_cases ho:oneB h h'=false
 ·rw[if_pos ho] at e ⊢
 rw[if_neg ho] at e ⊢
 by_cases h8:h.kind=8
 ·rw[if_pos h8] at e ⊢
  by_cases hl:k.len≠k'.len
  ·rw[if_pos hl] at e ⊢
  ·rw[if_neg hl] at e ⊢;exact equalF_no k k' e
 ·rw[if_neg h8] at e ⊢;exact equalH_no e
end Go.Proofs.YtlhfickniegooaaDoor

namespace Go.Proofs.YtlhfickniegooaaDoor
theorem oneB_refl(h:Hd):oneB h h=true:=by unfold oneB;simp
theorem oneB_symm(h h':Hd):oneB h h'=oneB h' h:=by
 unfold oneB
 rw[decide_eq_decide]
 constructor<;>(rintro⟨a,b⟩;exact⟨a.symm,b.symm⟩)
theorem sameHd_refl(h:Hd):sameHd h h=true:=by unfold sameHd;rw[oneB_refl];simp
theorem dec_symm{α:Type}[DecidableEq α](a b:α):decide (a=b)=decide (b=a):=by rw[decide_eq_decide];exact⟨Eq.symm,Eq.symm⟩
theorem sameF_refl: ∀f:Fo,sameF f f=true
 | .nil=>rfl
 | .cons h k r=>by unfold sameF;rw[sameHd_refl,sameF_refl k,sameF_refl r];simp
theorem sameD_refl(h:Hd)(k:Fo):sameD h k h k=true:=by unfold sameD;rw[sameHd_refl,sameF_refl];simp
end Go.Proofs.YtlhfickniegooaaDoor

namespace Go.Proofs.YtlhfickniegooaaDoor
open Go.RowKit Go.Sort
theorem head_more{h:Hd}{n:Nat}(hh:headB h n=true):(h.kind=3\/h.f=0)/\(h.kind=5\/h.kind=6\/h.kind=7\/h.kind=9\/(h.obj=0/\h.path=[]))/\(n=0\/h.kind=8):=by
 simp only[headB,okB,ok2B,Bool.and_eq_true,Bool.or_eq_true,decide_eq_true_iff] at hh
 obtain⟨⟨⟨⟨h1,hl⟩,⟨⟨_,hf⟩,_⟩⟩,hn⟩,_⟩:=hh
 refine⟨?_, ?_,hn⟩
 ·rcases hf with h | ⟨h,_⟩
  ·exact .inr h
  ·exact .inl h
 by_cases h5:h.kind=5
 ·exact .inl h5
 by_cases h6:h.kind=6
 ·exact .inr (.inl h6)
 by_cases h7:h.kind=7
 ·exact .inr (.inr (.inl h7))
 by_cases h9:h.kind=9
 ·exact .inr (.inr (.inr (.inl h9)))
 refine .inr (.inr (.inr (.inr ?_)))
 unfold leadsB at hl
 by_cases hob:h.obj<0\/2147483647<h.obj
 ·rw[if_pos hob] at hl;cases hl
 rw[if_neg hob,if_neg h5,if_neg (by omega)] at hl
 unfold plainB at hl
 rw[decide_eq_true_iff] at hl
 exact⟨hl.1,List.eq_nil_of_length_eq_zero (by have:=hl.2.2.2.2;omega)⟩
theorem feq_nan{a b:Nat}(h:feqB a b=true):nanB a=false/\nanB b=false/\placeF a=placeF b:=by
 unfold feqB at h
 rw[Bool.and_eq_true,Bool.and_eq_true,decide_eq_true_iff] at h
 exact⟨by simpa using h.1.1,by simpa using h.1.2,h.2⟩
theorem feq_mk{a b:Nat}(h1:nanB a=false)(h2:nanB b=false)(h3:placeF a=placeF b):feqB a b=true:=by
 unfold feqB;rw[h1,h2,decide_eq_true h3];rfl
theorem feq_same{a b:Int}(a0:0<=a)(a1:a<=18446744073709551615)(b0:0<=b)(b1:b<=18446744073709551615)(h:feqB a.toNat b.toNat=true):a=b\/(feqB a.toNat 0=true/\feqB b.toNat 0=true):=by
 obtain⟨n1,n2,hp⟩:=feq_nan h
 by_cases hz:placeF a.toNat=0
 ·exact .inr ⟨feq_mk n1 (by decide) (by rw[hz];decide),feq_mk n2 (by decide) (by rw[<-hp,hz];decide)⟩
 ·refine .inl ?_
  unfold placeF at hp hz
  by_cases s1:a.toNat / 9223372036854775808 % 2=1
  ·rw[if_pos s1] at hp hz
   by_cases s2:b.toNat / 9223372036854775808 % 2=1
   ·rw[if_pos s2] at hp;omega
   ·rw[if_neg s2] at hp;omega
  ·rw[if_neg s1] at hp hz
   by_cases s2:b.toNat / 9223372036854775808 % 2=1
   ·rw[if_pos s2] at hp;omega
   ·rw[if_neg s2] at hp;omega
theorem oneB_parts{h h':Hd}(ho:oneB h h'=true):h.kind=h'.kind/\h.type=h'.type:=of_decide_eq_true ho
theorem hash1_eq{h h':Hd}(ho:oneB h h'=true)(hs:h.s=h'.s):hash1 h=hash1 h':=by
 unfold hash1 bytesH
 rw[(oneB_parts ho).1,(oneB_parts ho).2,hs]
theorem hash2_eq{h h':Hd}(ho:oneB h h'=true)(hs:h.s=h'.s)(hf:h.f=h'.f):hash2 h=hash2 h':=by
 unfold hash2;rw[hash1_eq ho hs,hf]
theorem hash3_of{h h':Hd}(h2:hash2 h=hash2 h')(hn:h.n=h'.n)(hob:h.obj=h'.obj)(hp:h.path=h'.path):hash3 h=hash3 h':=by
 unfold hash3;rw[h2,hn,hob,hp]
theorem hash3_eq{h h':Hd}{n n':Nat}(o:h.ok)(o':h'.ok)(h1:headB h n=true)(h2:headB h' n'=true)(ho:oneB h h'=true)(he:h.kind≠8->(equalH h h').1=true):hash3 h=hash3 h':=by
 obtain⟨a0,a9,an,asz,_⟩:=head_facts h1
 obtain⟨b0,b9,bn,bsz,_⟩:=head_facts h2
 obtain⟨af,ar,_⟩:=head_more h1
 obtain⟨bf,br,_⟩:=head_more h2
 have hk:=(oneB_parts ho).1
 by_cases h8:h.kind=8
 ·obtain⟨x1,x2⟩:h.obj=0/\h.path=[]:=by rcases ar with h | h | h | h | h<;>first | exact h | omega
  obtain⟨y1,y2⟩:h'.obj=0/\h'.path=[]:=by rcases br with h | h | h | h | h<;>first | exact h | omega
  exact hash3_of (hash2_eq ho (by rw[size_emp (show h.s.size=0 by omega),size_emp (show h'.s.size=0 by omega)]) (by omega)) (by omega) (by omega) (by rw[x2,y2])
 have he:=he h8
 unfold equalH at he
 by_cases h3:h.kind=3
 ·rw[if_pos h3] at he
  obtain⟨x1,x2⟩:h.obj=0/\h.path=[]:=by rcases ar with h | h | h | h | h<;>first | exact h | omega
  obtain⟨y1,y2⟩:h'.obj=0/\h'.path=[]:=by rcases br with h | h | h | h | h<;>first | exact h | omega
  have es:h.s=h'.s:=by rw[size_emp (show h.s.size=0 by omega),size_emp (show h'.s.size=0 by omega)]
  refine hash3_of ?_ (by omega) (by omega) (by rw[x2,y2])
  rcases feq_same o.f0 o.f1 o'.f0 o'.f1 he with hf | ⟨f1,f2⟩
  ·exact hash2_eq ho es hf
  ·unfold hash2
   rw[f1,f2,hash1_eq ho es,if_neg (by simp),if_neg (by simp)]
 rw[if_neg h3] at he
 have ef:h.f=h'.f:=by omega
 by_cases h5:h.kind=5\/h.kind=6\/h.kind=7
 ·rw[if_pos h5] at he;cases he
 rw[if_neg h5] at he
 by_cases h9:h.kind=9
 ·rw[if_pos h9] at he
  have he:h.obj=h'.obj/\h.path=h'.path:=of_decide_eq_true he
  exact hash3_of (hash2_eq ho (by rw[size_emp (show h.s.size=0 by omega),size_emp (show h'.s.size=0 by omega)]) ef) (by omega) he.1 he.2
 rw[if_neg h9] at he
 have he:h.n=h'.n/\h.s=h'.s:=of_decide_eq_true he
 obtain⟨x1,x2⟩:h.obj=0/\h.path=[]:=by rcases ar with h | h | h | h | h<;>first | exact h | omega
 obtain⟨y1,y2⟩:h'.obj=0/\h'.path=[]:=by rcases br with h | h | h | h | h<;>first | exact h | omega
 exact hash3_of (hash2_eq ho he.2 ef) he.1 (by omega) (by rw[x2,y2])
theorem eqD_parts{h h':Hd}{k k':Fo}(h1:headB h k.len=true)(h2:headB h' k'.len=true)(ht:(equalD h k h' k').1=true):oneB h h'=true/\k.len=k'.len/\(equalF k k').1=true/\(h.kind≠8->(equalH h h').1=true):=by
 unfold equalD at ht
 by_cases ho:oneB h h'=false
 ·rw[if_pos ho] at ht;cases ht
 rw[if_neg ho] at ht
 have ho':oneB h h'=true:=by revert ho;cases oneB h h'<;>simp
 refine⟨ho', ?_⟩
 by_cases h8:h.kind=8
 ·rw[if_pos h8] at ht
  by_cases hl:k.len≠k'.len
  ·rw[if_pos hl] at ht;cases ht
  ·rw[if_neg hl] at ht
   exact⟨by omega,ht,fun h=>absurd h8 h⟩
 ·rw[if_neg h8] at ht
  have hk:=(oneB_parts ho').1
  have l1:k.len=0:=by have:=(head_more h1).2.2;omega
  have l2:k'.len=0:=by have:=(head_more h2).2.2;omega
  refine⟨by omega, ?_,fun _=>ht⟩
  rw[Fo.len_eq_zero k l1]
  simp[equalF]
theorem hashF_eq: ∀(f g:Fo),f.ok->g.ok->okF f=true->okF g=true->f.len=g.len->(equalF f g).1=true->∀a,hashF f a=hashF g a
 | .nil,.nil,_,_,_,_,_,_,a=>rfl
 | .nil,.cons h k r,_,_,_,_,hl,_,a=>by simp[Fo.len] at hl
 | .cons h k r,.nil,_,_,_,_,hl,_,a=>by simp[Fo.len] at hl
 | .cons h k r,.cons h' k' r',o,o',e,e',hl,he,a=>by
  simp only[okF,Bool.and_eq_true] at e e'
  rw[equalF_cons] at he
  by_cases ht:(equalD h k h' k').1=true
  ·rw[if_pos ht] at he
   obtain⟨p1,p2,p3,p4⟩:=eqD_parts e.1.1 e'.1.1 ht
   rw[hashF,hashF,hash3_eq o.1 o'.1 e.1.1 e'.1.1 p1 p4,hashF_eq k k' o.2.1 o'.2.1 e.1.2 e'.1.2 p2 p3]
   exact hashF_eq r r' o.2.2.1 o'.2.2.1 e.2 e'.2 (by simp[Fo.len] at hl;exact hl) he _
  ·rw[if_neg ht] at he;cases he
theorem hashD_eq{h h':Hd}{k k':Fo}(o:h.ok)(o':h'.ok)(ok_:k.ok)(ok':k'.ok)(h1:rightB h k=true)(h2:rightB h' k'=true)(ht:(equalD h k h' k').1=true):hashD h k=hashD h' k':=by
 obtain⟨a1,a2⟩:=right_ok h1
 obtain⟨b1,b2⟩:=right_ok h2
 obtain⟨p1,p2,p3,p4⟩:=eqD_parts a1 b1 ht
 unfold hashD
 rw[hash3_eq o o' a1 b1 p1 p4]
 exact hashF_eq k k' ok_ ok' a2 b2 p2 p3 _
theorem tyO_none{h:Hd}{k:Fo}(h0:h.kind=0):tyO h k=none:=by
 unfold tyO
 rw[if_neg (by omega),if_neg (by omega),if_neg (by omega),if_neg (by omega),if_neg (by omega),if_neg (by omega),if_neg (by omega)]
theorem tyO_some{h:Hd}{k:Fo}(h0:h.kind≠0)(h1:0<=h.kind)(h9:h.kind<=9): ∃t,tyO h k=some t:=by
 unfold tyO
 by_cases a1:h.kind=1
 ·rw[if_pos a1];exact⟨_,rfl⟩
 rw[if_neg a1]
 by_cases a2:h.kind=2\/h.kind=3
 ·rw[if_pos a2];exact⟨_,rfl⟩
 rw[if_neg a2]
 by_cases a4:h.kind=4
 ·rw[if_pos a4];exact⟨_,rfl⟩
 rw[if_neg a4]
 by_cases a5:h.kind=5
 ·rw[if_pos a5];exact⟨_,rfl⟩
 rw[if_neg a5]
 by_cases a6:h.kind=6\/h.kind=7
 ·rw[if_pos a6];exact⟨_,rfl⟩
 rw[if_neg a6]
 by_cases a9:h.kind=9
 ·rw[if_pos a9];exact⟨_,rfl⟩
 rw[if_neg a9,if_pos (by omega)]
 by_cases hh:heldS h k=emp
 ·rw[if_pos hh];exact⟨_,rfl⟩
 ·rw[if_neg hh];exact⟨_,rfl⟩
theorem hashV_eq{h h':Hd}{k k':Fo}(o:h.ok)(o':h'.ok)(ok_:k.ok)(ok':k'.ok)(h1:rightB h k=true)(h2:rightB h' k'=true)(ht:(equalD h k h' k').1=true):hashV h k=hashV h' k':=by
 obtain⟨p1,_⟩:=eqD_parts (right_ok h1).1 (right_ok h2).1 ht
 have hk:=(oneB_parts p1).1
 obtain⟨a0,a9,_⟩:=head_facts (right_ok h1).1
 unfold hashV
 by_cases h0:h.kind=0
 ·rw[tyO_none h0,tyO_none (by omega)]
 ·obtain⟨t,e⟩:=tyO_some (k:=k) h0 a0 a9
  obtain⟨t',e'⟩:=tyO_some (h:=h') (k:=k') (by omega) (by omega) (by omega)
  rw[e,e']
  exact hashD_eq o o' ok_ ok' h1 h2 ht
theorem held_own(h:Hd)(k:Fo):heldS h k=if h.kind=8 then(equalF k k).2 else(equalH h h).2:=by
 unfold heldS equalD
 rw[if_neg (by rw[oneB_refl];simp)]
 by_cases h8:h.kind=8
 ·rw[if_pos h8,if_pos h8,if_neg (by simp)]
 ·rw[if_neg h8,if_neg h8]
theorem key_held{h:Hd}{k:Fo}(hr:rightB h k=true):keyB h k=decide (heldS h k=emp):=by
 obtain⟨a0,a9,_,_,ant⟩:=head_facts (right_ok hr).1
 have ho:=held_own h k
 unfold keyB
 by_cases h0:h.kind=0
 ·rw[if_neg (by omega)] at ho
  rw[tyO_none h0,ho]
  unfold equalH
  rw[if_neg (by omega),if_neg (by omega),if_neg (by omega)]
  simp
 by_cases h8:h.kind=8
 ·unfold tyO
  rw[if_neg (by omega),if_neg (by omega),if_neg (by omega),if_neg (by omega),if_neg (by omega),if_neg (by omega),if_pos h8]
  by_cases hh:heldS h k=emp
  ·rw[if_pos hh,decide_eq_true hh];rfl
  ·rw[if_neg hh,decide_eq_false hh];rfl
 rw[if_neg h8] at ho
 rw[ho]
 unfold tyO equalH
 by_cases a1:h.kind=1
 ·rw[if_pos a1,if_neg (by omega),if_neg (by omega),if_neg (by omega),decide_eq_true rfl];rfl
 rw[if_neg a1]
 by_cases a3:h.kind=3
 ·rw[if_pos (.inr a3),if_pos a3,decide_eq_true rfl];rfl
 by_cases a2:h.kind=2
 ·rw[if_pos (.inl a2),if_neg (by omega),if_neg (by omega),if_neg (by omega),decide_eq_true rfl];rfl
 rw[if_neg (by omega)]
 by_cases a4:h.kind=4
 ·rw[if_pos a4,if_neg (by omega),if_neg (by omega),if_neg (by omega),decide_eq_true rfl];rfl
 rw[if_neg a4]
 by_cases a5:h.kind=5
 ·rw[if_pos a5,if_neg (by omega),if_pos (by omega),decide_eq_false (named_type ant (by omega))];rfl
 rw[if_neg a5]
 by_cases a6:h.kind=6\/h.kind=7
 ·rw[if_pos a6,if_neg (by omega),if_pos (by omega),decide_eq_false (named_type ant (by omega))];rfl
 rw[if_neg a6]
 have a9':h.kind=9:=by omega
 rw[if_pos a9',if_neg (by omega),if_neg (by omega),if_pos a9',decide_eq_true rfl];rfl
theorem eqH_self{h h':Hd}(ho:oneB h h'=true)(he:(equalH h h').1=true):equalH h' h'=(true,emp):=by
 have hk:=(oneB_parts ho).1
 unfold equalH at he ⊢
 by_cases h3:h.kind=3
 ·rw[if_pos h3] at he
  obtain⟨_,n2,_⟩:=feq_nan he
  rw[if_pos (by omega),feq_mk n2 n2 rfl]
 rw[if_neg h3] at he
 by_cases h5:h.kind=5\/h.kind=6\/h.kind=7
 ·rw[if_pos h5] at he;cases he
 rw[if_neg (by omega),if_neg (by omega)]
 by_cases h9:h.kind=9
 ·rw[if_pos (by omega)];simp
 ·rw[if_neg (by omega)];simp
theorem eqF_self: ∀(f g:Fo),f.len=g.len->(equalF f g).1=true->equalF g g=(true,emp)
 | .nil,.nil,_,_=>by simp[equalF]
 | .nil,.cons h k r,hl,_=>by simp[Fo.len] at hl
 | .cons h k r,.nil,hl,_=>by simp[Fo.len] at hl
 | .cons h k r,.cons h' k' r',hl,he=>by
  rw[equalF_cons] at he
  by_cases ht:(equalD h k h' k').1=true
  ·rw[if_pos ht] at he
   have hd:equalD h' k' h' k'=(true,emp):=by
    unfold equalD at ht ⊢
    by_cases ho:oneB h h'=false
    ·rw[if_pos ho] at ht;cases ht
    rw[if_neg ho] at ht
    have ho':oneB h h'=true:=by revert ho;cases oneB h h'<;>simp
    have hk:=(oneB_parts ho').1
    rw[if_neg (by rw[oneB_refl];simp)]
    by_cases h8:h.kind=8
    ·rw[if_pos h8] at ht
     by_cases hll:k.len≠k'.len
     ·rw[if_pos hll] at ht;cases ht
     ·rw[if_neg hll] at ht
      rw[if_pos (by omega),if_neg (by simp)]
      exact eqF_self k k' (by omega) ht
    ·rw[if_neg h8] at ht
     rw[if_neg (by omega)]
     exact eqH_self ho' ht
   rw[equalF_cons,hd,if_pos rfl]
   exact eqF_self r r' (by simp[Fo.len] at hl;exact hl) he
  ·rw[if_neg ht] at he;cases he
theorem eqD_self{h h':Hd}{k k':Fo}(ht:(equalD h k h' k').1=true):equalD h' k' h' k'=(true,emp):=by
 unfold equalD at ht ⊢
 by_cases ho:oneB h h'=false
 ·rw[if_pos ho] at ht;cases ht
 rw[if_neg ho] at ht
 have ho':oneB h h'=true:=by revert ho;cases oneB h h'<;>simp
 have hk:=(oneB_parts ho').1
 rw[if_neg (by rw[oneB_refl];simp)]
 by_cases h8:h.kind=8
 ·rw[if_pos h8] at ht
  by_cases hll:k.len≠k'.len
  ·rw[if_pos hll] at ht;cases ht
  ·rw[if_neg hll] at ht
   rw[if_pos (by omega),if_neg (by simp)]
   exact eqF_self k k' (by omega) ht
 ·rw[if_neg h8] at ht
  rw[if_neg (by omega)]
  exact eqH_self ho' ht
end Go.Proofs.YtlhfickniegooaaDoor
