/-
   Written by an AI agent.
-/
import Derived.Test.YtlhfickniegooaaDoorPk11
import Derived.Test.YtlhfickniegooaaDoorPk22
import Derived.Test.YtlhfickniegooaaDoorPk24
import Derived.Deep.CutBlock
import Derived.Test.YtlhfickniegooaaDoorPk21
namespace Go.Proofs.YtlhfickniegooaaDoor
open Go.RowKit Go.Sort
def RRC(h:Hd)(k:Fo):Prop:= ∀(deep:Int) (w:World) (S:Nat->Prop) (pa:Option Addr) (pc:Nat) (ia:Option Addr) (ic:Nat),0<=deep->deep<=101->DatAt w S h k pa pc ia ic->
 Calls Tryd.prog 69 #[.agg (h.cells pa pc ia k.len ic),.int .i64 deep] w fun e w'=>e=.returned (.bool (rrD deep h k))/\Below w.heap.size w w'
def FieldsC(h:Hd)(k:Fo):Prop:= ∀(deep:Int) (w:World) (S:Nat->Prop) (pa:Option Addr) (pc:Nat) (ia:Option Addr) (ic:Nat),0<=deep->deep<=100->DatAt w S h k pa pc ia ic->
 Calls Tryd.prog 83 #[.agg (h.cells pa pc ia k.len ic),.int .i64 deep] w fun e w'=>e=.returned (.bool ((declB h.type&&(rplainB h k.len false false false false true&&decide (k.len<=30)))&&rrF (deep+1) k))/\Below w.heap.size w w'
set_option maxRecDepth 100000 in
set_option maxHeartbeats 4000000 in
theorem rr_0(h:Hd)(k:Fo)(ho:h.ok)(hk:h.kind=0):RRC h k:=by
 intro deep w S pa pc ia ic h1 h2 hd
 by_cases hdp:100<deep
 ·have HR:Hid (rrD deep h k=false):=Lib.hid (by unfold rrD;rw[decide_eq_false (by omega)];rfl)
  unfold Hd.cells
  clear hk
  go_enter Tryd.func69,Tryd.ntmps69
  go_wp2_with fail
  go_ret
  exact⟨ret_bool HR.out.symm,bz⟩
 have hdp:deep<=100:=by omega
 have HR:=Lib.hid ((rr_leaf deep h k (by omega) hdp).trans (head0 h k.len hk))
 have HP:Hid (∀w',Below w.heap.size w w'->PathAt w' (fun _=>True) pa h.path):=Lib.hid (fun w' hb=>hd.path.keep (fun b _ hlt=>hb.block b hlt) (fun _ _ _=>trivial))
 have hts:=ho.type
 have hf0:=ho.f0
 have hf9:=ho.f1
 have hfr:=ho.frm
 have hpl:h.path.length<=9223372036854775807:=by have:=ho.path;omega
 clear hd
 have hplain:=fun n f s r t hc w=>rplain_any h k.len pa pc ia ic n f s r t hc w
 have HK:=Lib.hid hk
 unfold Hd.cells at hplain ⊢
 simp only[hk] at hplain HR ⊢
 have HPL:=Lib.hid hplain
 clear hk hplain
 go_enter Tryd.func69,Tryd.ntmps69
 go_wp2_with (first
    | (go_at_call 84;refine(rdecl_any _ hts _).mono ?_;rintro e w1 ⟨rfl,hb1⟩;obtain⟨hc1,hf1⟩:=bcell hb1;have hz1:w.heap.size<w1.heap.size:=by(have hz:=hb1.size;(try simp at hz);omega))
    | (go_at_call 81;refine(rtyped_any _ (by omega) (by omega) _ hts _).mono ?_;rintro e w1 ⟨rfl,hb1⟩;obtain⟨hc1,hf1⟩:=bcell hb1;have hz1:w.heap.size<w1.heap.size:=by(have hz:=hb1.size;(try simp at hz);omega))
    | (go_at_call 80;refine(HPL.out _ _ _ _ _ (by simp[oneOf]) _).mono ?_;rintro e w2 ⟨rfl,hb2⟩;obtain⟨hc2,hf2⟩:=bcell hb2;have hz2:w.heap.size<w2.heap.size:=by(have hz:=hb2.size;(try simp at hz);omega))
    | (go_at_call 78;refine(risNaN_any _ hf0 hf9 _).mono ?_;rintro e w3 ⟨rfl,rfl⟩)
    | (go_at_call 82;refine(rleads_any _ _ _ _ _ (by unfold kind4;omega) _ _ _ _ hpl hfr (by exact HP.out _ (bz))).mono ?_;rintro e w4 ⟨rfl,hb4⟩))
 all_goals
  go_ret
  refine⟨ret_bool (HR.out.trans ?_).symm,bz⟩
  first | (simp[*];done) | (simp[nanNo, *];rw[Bool.eq_iff_iff];simp[*];done) | (simp[nanNo, *];rw[Bool.eq_iff_iff];grind) | (simp only[‹typedB _ _=true›,‹rplainB _ _ _ _ _ _ _=true›,Bool.true_and];rw[decide_eq_decide];omega)
set_option maxRecDepth 100000 in
set_option maxHeartbeats 4000000 in
theorem rr_12(h:Hd)(k:Fo)(ho:h.ok)(hk:h.kind=1\/h.kind=2):RRC h k:=by
 intro deep w S pa pc ia ic h1 h2 hd
 by_cases hdp:100<deep
 ·have HR:Hid (rrD deep h k=false):=Lib.hid (by unfold rrD;rw[decide_eq_false (by omega)];rfl)
  unfold Hd.cells
  clear hk
  go_enter Tryd.func69,Tryd.ntmps69
  go_wp2_with fail
  go_ret
  exact⟨ret_bool HR.out.symm,bz⟩
 have hdp:deep<=100:=by omega
 have HR:=Lib.hid ((rr_leaf deep h k (by omega) hdp).trans (head12 h k.len hk))
 have HP:Hid (∀w',Below w.heap.size w w'->PathAt w' (fun _=>True) pa h.path):=Lib.hid (fun w' hb=>hd.path.keep (fun b _ hlt=>hb.block b hlt) (fun _ _ _=>trivial))
 have hts:=ho.type
 have hf0:=ho.f0
 have hf9:=ho.f1
 have hfr:=ho.frm
 have hpl:h.path.length<=9223372036854775807:=by have:=ho.path;omega
 clear hd
 rcases hk with hk | hk
 all_goals
  have hplain:=fun n f s r t hc w=>rplain_any h k.len pa pc ia ic n f s r t hc w
  have HK:=Lib.hid hk
  unfold Hd.cells at hplain ⊢
  simp only[hk] at hplain HR ⊢
  have HPL:=Lib.hid hplain
  clear hk hplain
  go_enter Tryd.func69,Tryd.ntmps69
  go_wp2_with (first
     | (go_at_call 84;refine(rdecl_any _ hts _).mono ?_;rintro e w1 ⟨rfl,hb1⟩;obtain⟨hc1,hf1⟩:=bcell hb1;have hz1:w.heap.size<w1.heap.size:=by(have hz:=hb1.size;(try simp at hz);omega))
     | (go_at_call 81;refine(rtyped_any _ (by omega) (by omega) _ hts _).mono ?_;rintro e w1 ⟨rfl,hb1⟩;obtain⟨hc1,hf1⟩:=bcell hb1;have hz1:w.heap.size<w1.heap.size:=by(have hz:=hb1.size;(try simp at hz);omega))
     | (go_at_call 80;refine(HPL.out _ _ _ _ _ (by simp[oneOf]) _).mono ?_;rintro e w2 ⟨rfl,hb2⟩;obtain⟨hc2,hf2⟩:=bcell hb2;have hz2:w.heap.size<w2.heap.size:=by(have hz:=hb2.size;(try simp at hz);omega))
     | (go_at_call 78;refine(risNaN_any _ hf0 hf9 _).mono ?_;rintro e w3 ⟨rfl,rfl⟩)
     | (go_at_call 82;refine(rleads_any _ _ _ _ _ (by unfold kind4;omega) _ _ _ _ hpl hfr (by exact HP.out _ (bz))).mono ?_;rintro e w4 ⟨rfl,hb4⟩))
  all_goals
   go_ret
   refine⟨ret_bool (HR.out.trans ?_).symm,bz⟩
   first | (simp[*];done) | (simp[*];rw[Bool.eq_iff_iff];simp[*];done) | (simp[nanNo, *];rw[Bool.eq_iff_iff];grind) | (simp only[‹typedB _ _=true›,‹rplainB _ _ _ _ _ _ _=true›,Bool.true_and];rw[decide_eq_decide];omega)
set_option maxRecDepth 100000 in
set_option maxHeartbeats 4000000 in
theorem rr_3(h:Hd)(k:Fo)(ho:h.ok)(hk:h.kind=3):RRC h k:=by
 intro deep w S pa pc ia ic h1 h2 hd
 by_cases hdp:100<deep
 ·have HR:Hid (rrD deep h k=false):=Lib.hid (by unfold rrD;rw[decide_eq_false (by omega)];rfl)
  unfold Hd.cells
  clear hk
  go_enter Tryd.func69,Tryd.ntmps69
  go_wp2_with fail
  go_ret
  exact⟨ret_bool HR.out.symm,bz⟩
 have hdp:deep<=100:=by omega
 have HR:=Lib.hid ((rr_leaf deep h k (by omega) hdp).trans (head3 h k.len hk))
 have HP:Hid (∀w',Below w.heap.size w w'->PathAt w' (fun _=>True) pa h.path):=Lib.hid (fun w' hb=>hd.path.keep (fun b _ hlt=>hb.block b hlt) (fun _ _ _=>trivial))
 have hts:=ho.type
 have hf0:=ho.f0
 have hf9:=ho.f1
 have hfr:=ho.frm
 have hpl:h.path.length<=9223372036854775807:=by have:=ho.path;omega
 clear hd
 have hplain:=fun n f s r t hc w=>rplain_any h k.len pa pc ia ic n f s r t hc w
 have HK:=Lib.hid hk
 unfold Hd.cells at hplain ⊢
 simp only[hk] at hplain HR ⊢
 have HPL:=Lib.hid hplain
 clear hk hplain
 go_enter Tryd.func69,Tryd.ntmps69
 go_wp2_with (first
    | (go_at_call 84;refine(rdecl_any _ hts _).mono ?_;rintro e w1 ⟨rfl,hb1⟩;obtain⟨hc1,hf1⟩:=bcell hb1;have hz1:w.heap.size<w1.heap.size:=by(have hz:=hb1.size;(try simp at hz);omega))
    | (go_at_call 81;refine(rtyped_any _ (by omega) (by omega) _ hts _).mono ?_;rintro e w1 ⟨rfl,hb1⟩;obtain⟨hc1,hf1⟩:=bcell hb1;have hz1:w.heap.size<w1.heap.size:=by(have hz:=hb1.size;(try simp at hz);omega))
    | (go_at_call 80;refine(HPL.out _ _ _ _ _ (by simp[oneOf]) _).mono ?_;rintro e w2 ⟨rfl,hb2⟩;obtain⟨hc2,hf2⟩:=bcell hb2;have hz2:w.heap.size<w2.heap.size:=by(have hz:=hb2.size;(try simp at hz);omega))
    | (go_at_call 78;refine(risNaN_any _ hf0 hf9 _).mono ?_;rintro e w3 ⟨rfl,rfl⟩)
    | (go_at_call 82;refine(rleads_any _ _ _ _ _ (by unfold kind4;omega) _ _ _ _ hpl hfr (by exact HP.out _ (bz))).mono ?_;rintro e w4 ⟨rfl,hb4⟩))
 all_goals
  go_ret
  refine⟨ret_bool (HR.out.trans ?_).symm,bz⟩
  first | (simp[*];done) | (simp[nanNo, *];rw[Bool.eq_iff_iff];simp[*];done) | (simp[nanNo, *];rw[Bool.eq_iff_iff];grind) | (simp only[‹typedB _ _=true›,‹rplainB _ _ _ _ _ _ _=true›,Bool.true_and];rw[decide_eq_decide];omega)
set_option maxRecDepth 100000 in
set_option maxHeartbeats 4000000 in
theorem rr_4(h:Hd)(k:Fo)(ho:h.ok)(hk:h.kind=4):RRC h k:=by
 intro deep w S pa pc ia ic h1 h2 hd
 by_cases hdp:100<deep
 ·have HR:Hid (rrD deep h k=false):=Lib.hid (by unfold rrD;rw[decide_eq_false (by omega)];rfl)
  unfold Hd.cells
  clear hk
  go_enter Tryd.func69,Tryd.ntmps69
  go_wp2_with fail
  go_ret
  exact⟨ret_bool HR.out.symm,bz⟩
 have hdp:deep<=100:=by omega
 have HR:=Lib.hid ((rr_leaf deep h k (by omega) hdp).trans (head4 h k.len hk))
 have HP:Hid (∀w',Below w.heap.size w w'->PathAt w' (fun _=>True) pa h.path):=Lib.hid (fun w' hb=>hd.path.keep (fun b _ hlt=>hb.block b hlt) (fun _ _ _=>trivial))
 have hts:=ho.type
 have hf0:=ho.f0
 have hf9:=ho.f1
 have hfr:=ho.frm
 have hpl:h.path.length<=9223372036854775807:=by have:=ho.path;omega
 clear hd
 have hplain:=fun n f s r t hc w=>rplain_any h k.len pa pc ia ic n f s r t hc w
 have HK:=Lib.hid hk
 unfold Hd.cells at hplain ⊢
 simp only[hk] at hplain HR ⊢
 have HPL:=Lib.hid hplain
 clear hk hplain
 go_enter Tryd.func69,Tryd.ntmps69
 go_wp2_with (first
    | (go_at_call 84;refine(rdecl_any _ hts _).mono ?_;rintro e w1 ⟨rfl,hb1⟩;obtain⟨hc1,hf1⟩:=bcell hb1;have hz1:w.heap.size<w1.heap.size:=by(have hz:=hb1.size;(try simp at hz);omega))
    | (go_at_call 81;refine(rtyped_any _ (by omega) (by omega) _ hts _).mono ?_;rintro e w1 ⟨rfl,hb1⟩;obtain⟨hc1,hf1⟩:=bcell hb1;have hz1:w.heap.size<w1.heap.size:=by(have hz:=hb1.size;(try simp at hz);omega))
    | (go_at_call 80;refine(HPL.out _ _ _ _ _ (by simp[oneOf]) _).mono ?_;rintro e w2 ⟨rfl,hb2⟩;obtain⟨hc2,hf2⟩:=bcell hb2;have hz2:w.heap.size<w2.heap.size:=by(have hz:=hb2.size;(try simp at hz);omega))
    | (go_at_call 78;refine(risNaN_any _ hf0 hf9 _).mono ?_;rintro e w3 ⟨rfl,rfl⟩)
    | (go_at_call 82;refine(rleads_any _ _ _ _ _ (by unfold kind4;omega) _ _ _ _ hpl hfr (by exact HP.out _ (bz))).mono ?_;rintro e w4 ⟨rfl,hb4⟩))
 all_goals
  go_ret
  refine⟨ret_bool (HR.out.trans ?_).symm,bz⟩
  first | (simp[*];done) | (simp[*];rw[Bool.eq_iff_iff];simp[*];done) | (simp[*];rw[Bool.eq_iff_iff];grind) | (simp only[‹typedB _ _=true›,‹rplainB _ _ _ _ _ _ _=true›,Bool.true_and];rw[decide_eq_decide];omega)
set_option maxRecDepth 100000 in
set_option maxHeartbeats 4000000 in
theorem rr_567(h:Hd)(k:Fo)(ho:h.ok)(hk:h.kind=5\/h.kind=6\/h.kind=7):RRC h k:=by
 intro deep w S pa pc ia ic h1 h2 hd
 by_cases hdp:100<deep
 ·have HR:Hid (rrD deep h k=false):=Lib.hid (by unfold rrD;rw[decide_eq_false (by omega)];rfl)
  unfold Hd.cells
  clear hk
  go_enter Tryd.func69,Tryd.ntmps69
  go_wp2_with fail
  go_ret
  exact⟨ret_bool HR.out.symm,bz⟩
 have hdp:deep<=100:=by omega
 have HR:=Lib.hid ((rr_leaf deep h k (by omega) hdp).trans (head567 h k.len hk))
 have HP:Hid (∀w',Below w.heap.size w w'->PathAt w' (fun _=>True) pa h.path):=Lib.hid (fun w' hb=>hd.path.keep (fun b _ hlt=>hb.block b hlt) (fun _ _ _=>trivial))
 have hts:=ho.type
 have hf0:=ho.f0
 have hf9:=ho.f1
 have hfr:=ho.frm
 have hpl:h.path.length<=9223372036854775807:=by have:=ho.path;omega
 clear hd
 rcases hk with hk | hk | hk
 all_goals
  have hplain:=fun n f s r t hc w=>rplain_any h k.len pa pc ia ic n f s r t hc w
  have HK:=Lib.hid hk
  unfold Hd.cells at hplain ⊢
  simp only[hk] at hplain HR ⊢
  have HPL:=Lib.hid hplain
  clear hk hplain
  go_enter Tryd.func69,Tryd.ntmps69
  go_wp2_with (first
     | (go_at_call 84;refine(rdecl_any _ hts _).mono ?_;rintro e w1 ⟨rfl,hb1⟩;obtain⟨hc1,hf1⟩:=bcell hb1;have hz1:w.heap.size<w1.heap.size:=by(have hz:=hb1.size;(try simp at hz);omega))
     | (go_at_call 81;refine(rtyped_any _ (by omega) (by omega) _ hts _).mono ?_;rintro e w1 ⟨rfl,hb1⟩;obtain⟨hc1,hf1⟩:=bcell hb1;have hz1:w.heap.size<w1.heap.size:=by(have hz:=hb1.size;(try simp at hz);omega))
     | (go_at_call 80;refine(HPL.out _ _ _ _ _ (by simp[oneOf]) _).mono ?_;rintro e w2 ⟨rfl,hb2⟩;obtain⟨hc2,hf2⟩:=bcell hb2;have hz2:w.heap.size<w2.heap.size:=by(have hz:=hb2.size;(try simp at hz);omega))
     | (go_at_call 78;refine(risNaN_any _ hf0 hf9 _).mono ?_;rintro e w3 ⟨rfl,rfl⟩)
     | (go_at_call 82;refine(rleads_any _ _ _ _ _ (by unfold kind4;omega) _ _ _ _ hpl hfr (by exact HP.out _ (bz))).mono ?_;rintro e w4 ⟨rfl,hb4⟩))
  all_goals
   go_ret
   refine⟨ret_bool (HR.out.trans ?_).symm,bz⟩
   first | (simp[*];done) | (simp[nanNo, *];rw[Bool.eq_iff_iff];simp[*];done) | (simp[nanNo, *];rw[Bool.eq_iff_iff];grind) | (simp only[‹typedB _ _=true›,‹rplainB _ _ _ _ _ _ _=true›,Bool.true_and];rw[decide_eq_decide];omega)
set_option maxRecDepth 100000 in
set_option maxHeartbeats 4000000 in
theorem rr_9(h:Hd)(k:Fo)(ho:h.ok)(hk:h.kind=9):RRC h k:=by
 intro deep w S pa pc ia ic h1 h2 hd
 by_cases hdp:100<deep
 ·have HR:Hid (rrD deep h k=false):=Lib.hid (by unfold rrD;rw[decide_eq_false (by omega)];rfl)
  unfold Hd.cells
  clear hk
  go_enter Tryd.func69,Tryd.ntmps69
  go_wp2_with fail
  go_ret
  exact⟨ret_bool HR.out.symm,bz⟩
 have hdp:deep<=100:=by omega
 have HR:=Lib.hid ((rr_leaf deep h k (by omega) hdp).trans (head9 h k.len hk))
 have HP:Hid (∀w',Below w.heap.size w w'->PathAt w' (fun _=>True) pa h.path):=Lib.hid (fun w' hb=>hd.path.keep (fun b _ hlt=>hb.block b hlt) (fun _ _ _=>trivial))
 have hts:=ho.type
 have hf0:=ho.f0
 have hf9:=ho.f1
 have hfr:=ho.frm
 have hpl:h.path.length<=9223372036854775807:=by have:=ho.path;omega
 clear hd
 have hplain:=fun n f s r t hc w=>rplain_any h k.len pa pc ia ic n f s r t hc w
 have HK:=Lib.hid hk
 unfold Hd.cells at hplain ⊢
 simp only[hk] at hplain HR ⊢
 have HPL:=Lib.hid hplain
 clear hk hplain
 go_enter Tryd.func69,Tryd.ntmps69
 go_wp2_with (first
    | (go_at_call 84;refine(rdecl_any _ hts _).mono ?_;rintro e w1 ⟨rfl,hb1⟩;obtain⟨hc1,hf1⟩:=bcell hb1;have hz1:w.heap.size<w1.heap.size:=by(have hz:=hb1.size;(try simp at hz);omega))
    | (go_at_call 81;refine(rtyped_any _ (by omega) (by omega) _ hts _).mono ?_;rintro e w1 ⟨rfl,hb1⟩;obtain⟨hc1,hf1⟩:=bcell hb1;have hz1:w.heap.size<w1.heap.size:=by(have hz:=hb1.size;(try simp at hz);omega))
    | (go_at_call 80;refine(HPL.out _ _ _ _ _ (by simp[oneOf]) _).mono ?_;rintro e w2 ⟨rfl,hb2⟩;obtain⟨hc2,hf2⟩:=bcell hb2;have hz2:w.heap.size<w2.heap.size:=by(have hz:=hb2.size;(try simp at hz);omega))
    | (go_at_call 78;refine(risNaN_any _ hf0 hf9 _).mono ?_;rintro e w3 ⟨rfl,rfl⟩)
    | (go_at_call 82;refine(rleads_any _ _ _ _ _ (by unfold kind4;omega) _ _ _ _ hpl hfr (by exact HP.out _ (bz))).mono ?_;rintro e w4 ⟨rfl,hb4⟩))
 all_goals
  go_ret
  refine⟨ret_bool (HR.out.trans ?_).symm,bz⟩
  first | (simp[*];done) | (simp[nanNo, *];rw[Bool.eq_iff_iff];simp[*];done) | (simp[nanNo, *];rw[Bool.eq_iff_iff];grind) | (simp only[‹typedB _ _=true›,‹rplainB _ _ _ _ _ _ _=true›,Bool.true_and];rw[decide_eq_decide];omega)
set_option maxRecDepth 100000 in
set_option maxHeartbeats 4000000 in
theorem rr_no(h:Hd)(k:Fo)(hk:h.kind<0\/9<h.kind):RRC h k:=by
 intro deep w S pa pc ia ic h1 h2 hd
 have HR:Hid (rrD deep h k=false):=Lib.hid (by unfold rrD;rw[head_no hk];simp)
 unfold Hd.cells
 clear hd
 by_cases hdp:100<deep
 ·clear hk
  go_enter Tryd.func69,Tryd.ntmps69
  go_wp2_with fail
  go_ret
  exact⟨ret_bool HR.out.symm,bz⟩
 have hdp:deep<=100:=by omega
 rcases hk with hk | hk
 all_goals
  go_enter Tryd.func69,Tryd.ntmps69
  go_wp2_with fail
  go_ret
  exact⟨ret_bool HR.out.symm,bz⟩
set_option maxRecDepth 100000 in
set_option maxHeartbeats 4000000 in
theorem rr_8(h:Hd)(k:Fo)(hk:h.kind=8)(hf:FieldsC h k):RRC h k:=by
 intro deep w S pa pc ia ic h1 h2 hd
 by_cases hdp:100<deep
 ·have HR:Hid (rrD deep h k=false):=Lib.hid (by unfold rrD;rw[decide_eq_false (by omega)];rfl)
  unfold Hd.cells
  clear hk
  go_enter Tryd.func69,Tryd.ntmps69
  go_wp2_with fail
  go_ret
  exact⟨ret_bool HR.out.symm,bz⟩
 have hdp:deep<=100:=by omega
 have HR:Hid (rrD deep h k=((declB h.type&&(rplainB h k.len false false false false true&&decide (k.len<=30)))&&rrF (deep+1) k)):=Lib.hid (by unfold rrD;rw[decide_eq_true hdp,head8 h k.len hk,Bool.true_and])
 have hF:=hf deep (w.alloc (.cells (h.cells pa pc ia k.len ic) 31)) S pa pc ia ic h1 hdp (hd.keep (fun b _ h=>Below.heap_alloc _ _ _ h) (fun _ h _=>h))
 have HK:=Lib.hid hk
 unfold Hd.cells at hF ⊢
 simp only[hk] at hF ⊢
 have HF:=Lib.hid hF
 clear hk hF hd hf
 go_enter Tryd.func69,Tryd.ntmps69
 go_wp2_with fail
 refine HF.out.mono ?_
 rintro e w1 ⟨rfl,hb1⟩
 go_wp2_with fail
 go_ret
 exact⟨ret_bool HR.out.symm,bz⟩
end Go.Proofs.YtlhfickniegooaaDoor

namespace Go.Proofs.YtlhfickniegooaaDoor
open Go.RowKit Go.Sort
set_option maxRecDepth 100000 in
set_option maxHeartbeats 4000000 in
theorem fields_one(h:Hd)(k:Fo)(ho:h.ok)(ih: ∀i h' k',k.get i=some (h',k')->RRC h' k')(hkl:k.len<=1034834473170):FieldsC h k:=by
 intro deep w S pa pc ia ic h1 h2 hd
 have hplain:=fun n f s r t hc w=>rplain_any h k.len pa pc ia ic n f s r t hc w
 have hts:=ho.type
 unfold Hd.cells at hplain
 have HPL:=Lib.hid hplain
 clear hplain
 unfold Hd.cells
 go_enter Tryd.func83,Tryd.ntmps83
 go_upto_region 0 with fail
 go_cut [0,2,4] (fun _ t1 _ wx=>t1=.pointer (some ⟨w.heap.size,0,none⟩)/\Blk wx w.heap.size 31 (h.cells pa pc ia k.len ic)/\Below w.heap.size w wx)
 case first=>
  go_wp2_with fail
  go_meet
  case rel=>exact⟨rfl,Blk.new _ _ _,bz⟩
 case rest=>
 obtain⟨rfl,hA,hbw⟩:=hcut
 obtain⟨w0,rfl⟩: ∃w0:World,w0=wc:=⟨_,rfl⟩
 obtain⟨c0,c1,c2,c3,c4,c5,c6,c7,c8,c9,c10⟩:=(CellsAt.of_blk hA).box
 go_upto_region 1 with fail
 go_cut [5] (fun t wx=>t=.bool (declB h.type)/\Below w0.heap.size w0 wx)
 case first=>
  go_wp2_with fail
  refine(rdecl_any _ hts _).mono ?_
  rintro e w1 ⟨rfl,hb1⟩
  go_wp2_with fail
  go_meet
  case rel=>exact⟨rfl,hb1⟩
 case rest=>
 obtain⟨rfl,hb0⟩:=hcut
 obtain⟨w1,rfl⟩: ∃w1:World,w1=wc:=⟨_,rfl⟩
 have hA1:=hA.below hb0 hA.lt
 have hbw1:=bl_trans hbw hb0
 clear c0 c1 c2 c3 c4 c5 c6 c7 c8 c9 c10 hA hb0 hbw
 obtain⟨c0,c1,c2,c3,c4,c5,c6,c7,c8,c9,c10⟩:=(CellsAt.of_blk hA1).box
 go_upto_region 2 with fail
 go_cut [5,6] (fun _ t wx=>t=.bool (declB h.type&&(rplainB h k.len false false false false true&&decide (k.len<=30)))/\Below w1.heap.size w1 wx)
 case first=>
  cases hdl:declB h.type
  ·go_wp2_with fail
   go_meet
   case rel=>exact⟨by rw[hdl];rfl,Below.refl _ _⟩
  ·go_wp2_with fail
   refine(HPL.out _ _ _ _ _ (by simp[oneOf]) _).mono ?_
   rintro e w2 ⟨rfl,hb2⟩
   have hA2:=hA1.below hb2 hA1.lt
   clear c0 c1 c2 c3 c4 c5 c6 c7 c8 c9 c10
   obtain⟨c0,c1,c2,c3,c4,c5,c6,c7,c8,c9,c10⟩:=(CellsAt.of_blk hA2).box
   cases hpb:rplainB h k.len false false false false true
   ·go_wp2_with fail
    go_meet
    case rel=>exact⟨by rw[hdl,hpb];rfl,hb2⟩
   ·go_wp2_with fail
    go_meet
    case rel=>exact⟨by rw[hdl,hpb];refine congrArg Value.bool ?_;rw[Bool.eq_iff_iff];simp;try omega,hb2⟩
 case rest=>
 obtain⟨rfl,hb0⟩:=hcut
 obtain⟨w2,rfl⟩: ∃w2:World,w2=wc:=⟨_,rfl⟩
 have hA2:=hA1.below hb0 hA1.lt
 have hbw2:=bl_trans hbw1 hb0
 clear c0 c1 c2 c3 c4 c5 c6 c7 c8 c9 c10 hA1 hb0 hbw1
 obtain⟨b0,hb0⟩: ∃b,(declB h.type&&(rplainB h k.len false false false false true&&decide (k.len<=30)))=b:=⟨_,rfl⟩
 rw[hb0]
 have HB0:=Lib.hid hb0
 have HD:=Lib.hid hd
 have HIH:=Lib.hid ih
 have HA:=Lib.hid hA2
 clear hd ih hA2 hb0
 go_wp2_with fail
 go_loopg [6,7] k.len (fun g t i wr=> ∃(j:Nat) (b:Bool),j<=k.len/\t=.bool b/\i=.int .i64 j/\g=k.len-j/\Below w.heap.size w wr/\Blk wr w.heap.size 31 (h.cells pa pc ia k.len ic)/\Hid ((b0&&rrF (deep+1) k)=(b&&rrF (deep+1) (k.drop j))))
 case atStart=>exact⟨0,b0,by omega,rfl,rfl,by omega,hbw2,HA.out,by unfold Hid;simp⟩
 case round=>
 obtain⟨j,b,hj,rfl,rfl,rfl,hbr,hAr,HN⟩:=hrel
 obtain⟨c0,c1,c2,c3,c4,c5,c6,c7,c8,c9,c10⟩:=(CellsAt.of_blk hAr).box
 by_cases hlt:j<k.len
 ·cases b
  ·go_wp2_with fail
   go_ret
   exact⟨ret_bool (by rw[HB0.out,HN.out];rfl),hbr⟩
  ·obtain⟨h',k',hget⟩:=Fo.get_lt k j hlt
   have hks:SlAt _ S ia k:=(HD.out.below hbr (fun b _ h=>h)).kids
   obtain⟨b,o,rfl,hSb,pa',pc',ia',ic',hcs,hda⟩:=hks.get hget
   obtain⟨d0,d1,d2,d3,d4,d5,d6,d7,d8,d9,d10⟩:=hcs.eleven
   have hih:=HIH.out j h' k' hget (deep+1) wr S pa' pc' ia' ic' (by omega) (by omega) hda
   unfold Hd.cells at hih
   have HI:=Lib.hid hih
   have HDr:Hid (rrF (deep+1) (k.drop j)=(rrD (deep+1) h' k'&&rrF (deep+1) (k.drop (j+1)))):=Lib.hid (by rw[Fo.drop_get k j h' k' hget,rrF_cons])
   clear hih hget hcs hda hks
   go_wp2_with fail
   refine HI.out.mono ?_
   rintro e w4 ⟨rfl,hb4⟩
   have hbr4:Below w.heap.size w w4:=bl_trans hbr hb4
   have hA4:=hAr.below hb4 hAr.lt
   clear HI d0 d1 d2 d3 d4 d5 d6 d7 d8 d9 d10 hb4 c0 c1 c2 c3 c4 c5 c6 c7 c8 c9 c10 hbr hAr
   go_wp2_with fail
   go_roundg (k.len-(j+1))
   case measure=>omega
   case rel=>exact⟨j+1,_,by omega,rfl,by go_num,rfl,hbr4,hA4,by unfold Hid;rw[HN.out,HDr.out];rfl⟩
 ·have hjk:j=k.len:=by omega
  subst hjk
  go_wp2_with fail
  go_ret
  exact⟨ret_bool (by rw[HB0.out,HN.out,Fo.drop_len k _ (Nat.le_refl _),rrF,Bool.and_true]),hbr⟩
theorem rr_one(h:Hd)(k:Fo)(ho:h.ok)(hkl:k.len<=1034834473170)(ih: ∀i h' k',k.get i=some (h',k')->RRC h' k'):RRC h k:=by
 by_cases hn:h.kind<0\/9<h.kind
 ·exact rr_no h k hn
 by_cases h0:h.kind=0
 ·exact rr_0 h k ho h0
 by_cases h12:h.kind=1\/h.kind=2
 ·exact rr_12 h k ho h12
 by_cases h3:h.kind=3
 ·exact rr_3 h k ho h3
 by_cases h4:h.kind=4
 ·exact rr_4 h k ho h4
 by_cases h567:h.kind=5\/h.kind=6\/h.kind=7
 ·exact rr_567 h k ho h567
 by_cases h9:h.kind=9
 ·exact rr_9 h k ho h9
 exact rr_8 h k (by omega) (fields_one h k ho ih hkl)
theorem rr_all: ∀(f:Fo),f.ok->∀i h k,f.get i=some (h,k)->RRC h k
 | .nil,_,i,h,k,e=>by simp[Fo.get] at e
 | .cons h' k' r,o,0,h,k,e=>by
  simp only[Fo.get,Option.some.injEq,Prod.mk.injEq] at e
  obtain⟨rfl,rfl⟩:=e
  exact rr_one _ _ o.1 o.2.2.2 (rr_all k' o.2.1)
 | .cons h' k' r,o,i+1,h,k,e=>rr_all r o.2.2.1 i h k e
theorem rr_any(h:Hd)(k:Fo)(ho:h.ok)(hk:k.ok)(hl:k.len<=1034834473170):RRC h k:=rr_one h k ho hl (rr_all k hk)
set_option maxRecDepth 100000 in
set_option maxHeartbeats 1000000 in
theorem refRight_any(h:Hd)(k:Fo)(ho:h.ok)(hk:k.ok)(hl:k.len<=1034834473170)(w:World)(S:Nat->Prop)(pa:Option Addr)(pc:Nat)(ia:Option Addr)(ic:Nat)(hd:DatAt w S h k pa pc ia ic):
  Calls Tryd.prog 58 #[.agg (h.cells pa pc ia k.len ic)] w fun e w'=>e=.returned (.bool (rightB h k))/\Below w.heap.size w w':=by
 rw[right_law]
 have hs:=fun w' hd'=>size_any h k ho hk w' S pa pc ia ic hd'
 have hr:=fun w' hd'=>rr_any h k ho hk hl 1 w' S pa pc ia ic (by decide) (by decide) hd'
 unfold Hd.cells at hs hr
 have HS:=Lib.hid hs
 have HR:=Lib.hid hr
 clear hs hr
 have hd0:=hd.keep (w':=w.alloc (.cells (h.cells pa pc ia k.len ic) 31)) (fun b _ h=>Below.heap_alloc _ _ _ h) (S':=S) (fun _ h _=>h)
 unfold Hd.cells at hd0 ⊢
 have HD0:=Lib.hid hd0
 clear hd hd0
 unfold refRight
 go_enter Tryd.func58,Tryd.ntmps58
 go_wp2_with fail
 refine(HS.out _ HD0.out).mono ?_
 rintro e w1 ⟨rfl,hb1⟩
 obtain⟨hc1,hf1⟩:=bcell hb1
 have HD1:=Lib.hid (HD0.out.below hb1 (fun b _ h=>h))
 by_cases hz:sizeD h k<=100
 ·go_wp2_with fail
  refine(HR.out _ HD1.out).mono ?_
  rintro e w2 ⟨rfl,hb2⟩
  go_wp2_with fail
  go_ret
  exact⟨ret_bool (by rw[decide_eq_true (by omega)];rfl),bz⟩
 ·have hz':100<sizeD h k:=by omega
  go_wp2_with fail
  go_ret
  exact⟨ret_bool (by rw[decide_eq_false (by omega)];rfl),bz⟩
end Go.Proofs.YtlhfickniegooaaDoor

namespace Go.Proofs.YtlhfickniegooaaDoor
open Go.RowKit
set_option maxRecDepth 100000
abbrev erT:TypeId:=116
theorem blk_over{w:World}{g:Nat}{t:TypeId}{cs ds:Array Value}(h:Blk w g t cs)(vs:List Value)(e:(vs.foldl (fun(p:Array Value×Nat) v=>(p.1.setIfInBounds p.2 v,p.2+1)) (cs,0)).1=ds):Blk (w.setCells g 0 vs) g t ds:=e ▸ Blk.setL vs 0 _ _ h
theorem err_load{w:World}{g:Nat}{t:TypeId}{e:E9}(h:Blk w g t e.cs):Lds Tryd.prog erT (.pointer (some ⟨g,0,none⟩)) (.agg e.cs) w:=ldsA (cs:=e.cs.toList) Tryd.underlying116 rfl (by kernel_rfl) (range_of h 0 5 rfl)
theorem err_sto{w:World}{g:Nat}{t:TypeId}{d:E9}(h:Blk w g t d.cs)(e:E9):(Instr.storeAt erT (.pointer (some ⟨g,0,none⟩)) (.agg e.cs)).run Tryd.prog w=.ok () (w.setCells g 0 e.cs.toList):=stsA (there_bk h (Nat.le_refl _)) (by kernel_rfl) (by kernel_rfl)
theorem err_over{w:World}{g:Nat}{t:TypeId}{d:E9}(h:Blk w g t d.cs)(e:E9):Blk (w.setCells g 0 e.cs.toList) g t e.cs:=blk_over h _ (by kernel_rfl)
theorem fault_load{w:World}{g:Nat}{t:TypeId}{a b:ByteArray}(h:Blk w g t #[.string a,.string b]):Lds Tryd.prog 9 (.pointer (some ⟨g,0,none⟩)) (.string a) w:=one_load h Tryd.underlying9 rfl rfl
theorem wrong9_any{k v:Dt}{mk mv:Dm}{w:World}{S T:Nat->Prop}(hk:k.ok)(hv:v.ok)(dk:k.at w S mk)(dv:v.at w T mv):
  Calls Tryd.prog 59 #[.agg (k.cs mk),.agg (v.cs mv)] w fun e w'=>e=.returned (.agg (wrongA k v).cs)/\Below w.heap.size w w':=by
 refine calls_ev (vs:=[.agg (k.cs mk),.agg (v.cs mv)]) 22 Tryd.func59 e1_body (by kernel_rfl) (by simp) fun a0 h0=> ?_
 unfold e1Body
 refine wp_seq (rg_wp (e1_r0 h0 rfl rfl fun a1 h1=> ?_))
 have hK1:=Blk.new w 31 (k.cs mk)
 have hb1:=bl_alloc (Below.refl w.heap.size w) (.cells (k.cs mk) 31)
 generalize w.alloc (.cells (k.cs mk) 31)=w1 at h1 hK1 hb1 ⊢
 have hV2:=Blk.new w1 31 (v.cs mv)
 have hK2:=hK1.below (bl_alloc (Below.refl w1.heap.size w1) (.cells (v.cs mv) 31)) hK1.lt
 have hb2:=bl_alloc hb1 (.cells (v.cs mv) 31)
 have l12:w1.heap.size<(w1.alloc (.cells (v.cs mv) 31)).heap.size:=by simp
 generalize w1.alloc (.cells (v.cs mv) 31)=w2 at h1 hV2 hK2 hb2 l12 ⊢
 have hE3:Blk _ w2.heap.size erT (noneE:E9).cs:=Blk.new w2 _ _
 have hab:=bl_alloc (Below.refl w2.heap.size w2) (.cells (noneE:E9).cs erT)
 have hK3:=hK2.below hab hK2.lt
 have hV3:=hV2.below hab hV2.lt
 have hb3:=bl_alloc hb2 (.cells (noneE:E9).cs erT)
 have l23:w2.heap.size<(w2.alloc (.cells (noneE:E9).cs erT)).heap.size:=by simp
 have e3:w2.alloc (.cells #[.int .i64 0,.int .i64 0,.string ⟨#[]⟩,.string ⟨#[]⟩,.string ⟨#[]⟩] 116)=w2.alloc (.cells (noneE:E9).cs erT):=rfl
 rw[e3]
 generalize w2.alloc (.cells (noneE:E9).cs erT)=w3 at hE3 hK3 hV3 hb3 l23 ⊢
 have lo1:w.heap.size<w1.heap.size:=hK1.lt
 refine wp_seq (rg_wp (e1_r1 h1 rfl (dat_whole hK3) (refRight_any k.h k.k hk.h hk.k hk.len w3 S _ _ _ _ (dk.old hb3)) fun a2 w4 hb4 h2=> ?_))
 have hb04:=bl_trans hb3 hb4
 refine wp_seq (rg_wp (e1_r2 h2 rfl (dat_whole (hV3.below hb4 hV3.lt)) (refRight_any v.h v.k hv.h hv.k hv.len w4 T _ _ _ _ (dv.old hb04)) fun a3 w5 hb5 h3=> ?_))
 have hb05:=bl_trans hb04 hb5
 have hb35:=bl_trans hb4 hb5
 have hE5:=hE3.below hb35 hE3.lt
 have hK5:=hK3.below hb35 hK3.lt
 have bad: ∀{a':Act},Sl 22 a' [(4,.pointer (some ⟨w2.heap.size,0,none⟩))]->(rB k&&rB v)=false->∀K,(Code.seq (r_e1 4) .ret).wp Tryd.prog (Exit.then K (bodyPost Tryd.prog Tryd.f59 fun e w'=>e=.returned (.agg (wrongA k v).cs)/\Below w.heap.size w w')) a' w5:=fun h' hr K=>by
  refine wp_seq (rg_wp (e1_r4 h' rfl (err_sto hE5 ⟨1,⟨#[]⟩,⟨#[]⟩⟩) fun a6 h6=>wp_ret (then_ret ?_)))
  have hl:=err_load (err_over hE5 ⟨1,⟨#[]⟩,⟨#[]⟩⟩)
  refine ret_c rfl h6 rfl hl ⟨by rw[wrongA,if_pos hr],below_setCells _ _ _ hb05 (by have:=hb2.size;omega)⟩
 cases hr:rB k with
 | false=>
  rw[show rightB k.h k.k=false from hr] at h3
  refine wp_seq (wp_seq (rg_wp (e1_r3_f h3 rfl fun a4 h4=>wp_cond_true (h4.look 16 rfl) ?_)))
  exact bad (h4.to ⟨rfl,trivial⟩) (by rw[hr];rfl) _
 | true=>
  rw[show rightB k.h k.k=true from hr] at h3
  refine wp_seq (wp_seq (rg_wp (e1_r3_t h3 rfl rfl fun a4 h4=> ?_)))
  cases hr2:rB v with
  | false=>
   rw[show rightB v.h v.k=false from hr2] at h4
   exact wp_cond_true (h4.look 16 rfl) (bad (h4.to ⟨rfl,trivial⟩) (by rw[hr,hr2];rfl) _)
  | true=>
   rw[show rightB v.h v.k=true from hr2] at h4
   refine wpo (h4.look 16 rfl) ?_
   have hkey: ∃fw fm,keyFault (reqD k.h k.k k.h k.k).2=.agg #[.string fw,.string fm]/\wrongA k v=⟨0,fw,fm⟩:=by
    have e1:(reqD k.h k.k k.h k.k).2=if heldS k.h k.k=emp then none else some (heldS k.h k.k):=by
     rw[eq_law hr hr]
     rfl
    have e2:kB k=decide (heldS k.h k.k=emp):=key_held hr
    have e3:wrongA k v=if kB k=false then⟨0,⟨#[107,101,121]⟩,heldS k.h k.k⟩ else noneE:=by
     unfold wrongA
     rw[hr,hr2]
     rfl
    rw[e3,e1,e2]
    by_cases hh:heldS k.h k.k=emp
    ·exact⟨⟨#[]⟩,⟨#[]⟩,by rw[if_pos hh];rfl,by rw[if_neg (by simp[hh])];rfl⟩
    ·exact⟨⟨#[107,101,121]⟩,heldS k.h k.k,by rw[if_neg hh];rfl,by rw[if_pos (by simp[hh])]⟩
   obtain⟨fw,fm,k1,k2⟩:=hkey
   refine wp_seq (rg_wp (e1_r5 (fw:=fw) (fm:=fm) h4 rfl rfl (dat_whole hK5) ((rKey_any k.h k.k hk.h hk.k w5 S _ _ _ _ (dk.old hb05)).mono fun e w' hh=>⟨by rw[hh.1,k1],hh.2⟩) (fun w1 hc=>err_sto (hE5.below hc hE5.lt) ⟨0,fw,fm⟩) fun a5 w6 hb6 h5=>wp_ret ?_))
   have hl:=err_load (err_over (hE5.below hb6 hE5.lt) ⟨0,fw,fm⟩)
   refine ret_c rfl h5 rfl hl ⟨by rw[k2],below_setCells _ _ _ (bl_trans hb05 hb6) (by have:=hb2.size;omega)⟩
def atI(L:List Re)(d:Dt):Int:=match L.findIdx? (fun x=>eqO x.k d) with
 | some i=>i
 | none=> -1
theorem equal9{a d:Dt}{ma md:Dm}{w:World}{S T:Nat->Prop}(ha:a.ok)(hd:d.ok)(da:a.at w S ma)(dd:d.at w T md)(hr:rB a=true)(hr2:rB d=true)(hk:kB d=true):
  Calls Tryd.prog 67 #[.agg (a.cs ma),.agg (d.cs md)] w fun e w'=> ∃_:Unit,e=.returned (.tuple #[.bool (eqO a d),.agg #[.string ⟨#[]⟩,.string ⟨#[]⟩]])/\Below w.heap.size w w':=by
 refine(req_any a.h a.k d.h d.k ha.h ha.k hd.h hd.k w S T _ _ _ _ _ _ _ _ da dd).mono fun e w' hh=>⟨(), ?_,hh.2⟩
 rw[hh.1,eq_law hr hr2]
 unfold conv
 rw[no_fault hr2 hk,if_pos rfl]
 rfl
set_option maxHeartbeats 2000000 in
theorem at_any{w:World}{gr:Nat}{L:List Re}{many:Int}{D O:Nat->Prop}(hR:RefAt w gr L many D O)(hL:L.length<=9223372036854775806){d:Dt}{md:Dm}{S:Nat->Prop}(ho:d.ok)(hd:d.at w S md)(hr:rB d=true)(hk:kB d=true):
  Calls Tryd.prog 57 #[.pointer (some ⟨gr,0,none⟩),.agg (d.cs md)] w fun e w'=>e=.returned (.int .i64 (atI L d))/\Below w.heap.size w w':=by
 refine calls_ev (vs:=[.pointer (some ⟨gr,0,none⟩),.agg (d.cs md)]) 37 Tryd.func57 e2_body (by kernel_rfl) (by simp) fun a0 h0=> ?_
 unfold e2Body
 refine wp_seq (rg_wp (e2_r0 h0 rfl fun a1 h1=> ?_))
 have hB1:=Blk.new w 31 (d.cs md)
 have hb1:=bl_alloc (Below.refl w.heap.size w) (.cells (d.cs md) 31)
 generalize w.alloc (.cells (d.cs md) 31)=w1 at hB1 hb1 ⊢
 refine wp_seq (wp_seq (rg_wp (e2_r1 h1 fun a2 h2=> ?_)))
 have h2:Sl 37 a2 [(5,.int .i64 ((0:Nat):Int)),(3,.pointer (some ⟨w.heap.size,0,none⟩)),(0,.pointer (some ⟨gr,0,none⟩))]:=h2.to ⟨rfl,rfl,rfl,trivial⟩
 refine wp_block ?_
 refine wp_loop (fun a' wr=> ∃j:Nat,j<=L.length/\(∀i x,i<j->L[i]? =some x->eqO x.k d=false)/\Sl 37 a' [(5,.int .i64 (j:Int)),(3,.pointer (some ⟨w.heap.size,0,none⟩)),(0,.pointer (some ⟨gr,0,none⟩))]/\Below w1.heap.size w1 wr)
  (fun a' _=>muTo L.length (slot a' 5)) ⟨0,Nat.zero_le _,fun i x h=>(by omega),h2,Below.refl _ _⟩ ?_
 rintro a3 w3 ⟨j,hj,hno,h3,hb3⟩
 rw[h3.look 5 rfl,muTo_int]
 unfold e2L0
 have hb03:=bl_trans hb1 hb3
 obtain⟨s,hBr,hRow,hso⟩:=(hR.old hb03).row
 by_cases hlt:j<L.length
 ·refine wp_seq (wp_seq (rg_wp (e2_r2 (b14:=true) h3 rfl rfl (one_load hBr Tryd.underlying54 rfl rfl) (decide_eq_true (by rw[hRow.2];omega)) fun a4 h4=>wpn (h4.look 14 rfl) ?_)))
  obtain⟨x,hx⟩: ∃x,L[j]? =some x:=⟨L[j],by simp[hlt]⟩
  have hxm:=List.mem_of_getElem? hx
  obtain⟨g,cur,hg,hsd,hsn,_,_,hgl,hBg,_,hra⟩:=hRow.at hx
  have hRe:=re_key hra
  have hd3:=hR.old hb03
  obtain⟨hokx,hkx,_⟩:=hR.oks x hxm
  have hB3:=hB1.below hb3 hB1.lt
  have hC: ∀u,Below w3.heap.size w3 u->Blk u gr rfT #[s.v,.int .i64 many]/\u.rangeAt g (j*23) (x.k.cs x.dk).toList/\Blk u w.heap.size 31 (d.cs md):=fun u hb=>⟨hBr.below hb hBr.lt,fun i v hv=>cell_ext (Ext.of_below (B:=0) hb (Nat.zero_le _)) (hRe i v hv),hB3.below hb hB3.lt⟩
  have hq: ∀u,Below w3.heap.size w3 u->Calls Tryd.prog 67 #[.agg (x.k.cs x.dk),.agg (d.cs md)] u fun e w'=> ∃_:Unit,e=.returned (.tuple #[.bool (eqO x.k d),.agg #[.string ⟨#[]⟩,.string ⟨#[]⟩]])/\Below u.heap.size u w':=fun u hb=>equal9 hokx.1 ho ((hd3.dat x hxm).1.old hb) ((hd.old hb03).old hb) hkx.1 hr hk
  have rest: ∀{a':Act} {w':World} {g7:Nat} {Q:Exit->Act->World->Prop},Below w3.heap.size w3 w'->Sl 37 a' [(6,.bool (eqO x.k d)),(7,.pointer (some ⟨g7,0,none⟩)),(5,.int .i64 (j:Int)),(3,.pointer (some ⟨w.heap.size,0,none⟩)),(0,.pointer (some ⟨gr,0,none⟩))]->Blk w' g7 71 #[.string ⟨#[]⟩,.string ⟨#[]⟩]->
    (eqO x.k d=true->∀a'',Sl 37 a'' [(4,.int .i64 (j:Int))]->Q .ret a'' w')->(eqO x.k d=false->∀a'',Sl 37 a'' [(5,.int .i64 (j:Int)),(3,.pointer (some ⟨w.heap.size,0,none⟩)),(0,.pointer (some ⟨gr,0,none⟩))]->Q .normal a'' w')->
    (Code.seq (r_e2 5) (.cond (.tmp 35) (.seq (r_e2 6) .ret) .skip)).wp Tryd.prog Q a' w':=fun{a' w' g7 Q} hb h' hB7 q1 q2=>by
   cases he:eqO x.k d with
   | true=>
    rw[he] at h'
    refine wp_seq (rg_wp (e2_r5_t (b34:=true) h' rfl rfl (fault_load hB7) (decide_eq_true rfl) fun a5 h5=>wp_cond_true (h5.look 35 rfl) ?_))
    exact wp_seq (rg_wp (e2_r6 h5 rfl fun a6 h6=>wp_ret (q1 he a6 (h6.to ⟨rfl,trivial⟩))))
   | false=>
    rw[he] at h'
    refine wp_seq (rg_wp (e2_r5_f h' rfl fun a5 h5=>wpc_off (h5.look 35 rfl) ?_))
    exact q2 he a5 (h5.to ⟨rfl,rfl,rfl,trivial⟩)
  have hd31:Below w3.heap.size w3 (w3.drewN 1):=below_drewN (Below.refl _ _) 1
  have hda:=bl_alloc hd31 (.cells #[.string ⟨#[]⟩,.string ⟨#[]⟩] 71)
  have hnx: ∀{a'':Act} {w':World},Below w3.heap.size w3 w'->eqO x.k d=false->Sl 37 a'' [(5,.int .i64 (j:Int)),(3,.pointer (some ⟨w.heap.size,0,none⟩)),(0,.pointer (some ⟨gr,0,none⟩))]->∀Q:Exit->Act->World->Prop,
    (∀a6,(∃j:Nat,j<=L.length/\(∀i x,i<j->L[i]? =some x->eqO x.k d=false)/\Sl 37 a6 [(5,.int .i64 (j:Int)),(3,.pointer (some ⟨w.heap.size,0,none⟩)),(0,.pointer (some ⟨gr,0,none⟩))]/\Below w1.heap.size w1 w')/\muTo L.length (slot a6 5)<L.length-j->Q .normal a6 w')->(r_e2 3).wp Tryd.prog Q a'' w':=fun hb he h' Q hQ=>by
   refine wpl (rg_wp (e2_r3 h' rfl (by omega) fun a6 h6=>hQ a6 ⟨⟨j+1,by omega,fun i y hi hy=> ?_,h6.to ⟨rfl,rfl,rfl,trivial⟩,bl_trans hb3 hb⟩, ?_⟩))
   ·by_cases hij:i<j
    ·exact hno i y hij hy
    ·have:i=j:=by omega
     subst this
     rw[hx] at hy
     injection hy with hy
     rw[<-hy]
     exact he
   ·rw[h6.look 5 rfl,show((j:Int)+1)=((j+1:Nat):Int) by simp,muTo_int]
    omega
  have hst: ∀{a'':Act} {w':World},Below w3.heap.size w3 w'->eqO x.k d=true->Sl 37 a'' [(4,.int .i64 (j:Int))]->bodyPost Tryd.prog Tryd.f57 (fun e w'=>e=.returned (.int .i64 (atI L d))/\Below w.heap.size w w') .ret a'' w':=fun hb he h'=>by
   have hf:L.findIdx? (fun x=>eqO x.k d)=some j:=by
    rw[List.findIdx?_eq_some_iff_getElem]
    refine⟨hlt, ?_,fun i hi=> ?_⟩
    ·rw[List.getElem?_eq_getElem hlt] at hx
     injection hx with hx
     rw[hx]
     exact he
    ·rw[hno i L[i] hi (List.getElem?_eq_getElem (by omega))]
     decide
   refine ret1 rfl h' rfl ⟨?_,bl_trans hb03 hb⟩
   unfold atI
   rw[hf]
  refine wp_seq (wp_block (wp_seq (rg_wp (e2_r4 (g23:=g) (o23:=j*23) (dl:=some ⟨g,0,none⟩) (nl:=s.n) (ql:=s.c) (C:=fun u=>Below w3.heap.size w3 u) (C0:=fun u _ u'=>Below u.heap.size u u') (bq:=eqO x.k d) (fw:=⟨#[]⟩) (fm:=⟨#[]⟩) h4 rfl rfl rfl hd31 (fun u hu=>one_load (hC u hu).1 Tryd.underlying54 rfl (by show some s.v=_;unfold S3.v;rw[hsd])) (ix_at j rfl Tryd.underlying54 (by kernel_rfl) (by rw[hRow.2];exact hlt) rfl)
   (fun u hu=>ldsA Tryd.underlying31 rfl (by kernel_rfl) (cs:=(x.k.cs x.dk).toList) (hC u hu).2.1) (fun u hu=>dat_whole (hC u hu).2.2) (hq _ hd31) (fun _ _ hc=>bl_trans hd31 hc) (fun _ _ hc=>bl_alloc (bl_trans hd31 hc) _)
   (fun _ w5 hc=>stsA (there_bk (Blk.new w5 _ _) (Nat.le_refl _)) (by kernel_rfl) (by kernel_rfl)) hda (hq _ hda) (fun _ _ hc=>bl_trans hda hc) (fun _ w5 hc=>stsA (there_bk ((Blk.new (w3.drewN 1) 71 _).below hc (Blk.new (w3.drewN 1) 71 _).lt) (Nat.le_refl _)) (by kernel_rfl) (by kernel_rfl)) (fun a5 _ w5 hb5 h5=> ?c1) (fun a5 _ w5 hb5 h5=> ?c2)))))
  case c1=>
   have hbb:=below_setCells (b:=w5.heap.size) [.string ⟨#[]⟩,.string ⟨#[]⟩] 0 _ (bl_alloc (bl_trans hd31 hb5) (.cells #[.string ⟨#[]⟩,.string ⟨#[]⟩] 71)) (bl_trans hd31 hb5).size
   refine rest hbb (h5.to ⟨rfl,rfl,rfl,rfl,rfl,trivial⟩) (blk_over (Blk.new w5 _ _) _ rfl) (fun he a6 h6=> ?_) (fun he a6 h6=> ?_)
   ·repeat (first | with_reducible refine then_ret ?_ | with_reducible refine block_ret ?_)
    exact hst hbb he h6
   ·exact hnx hbb he h6 _ fun a7 h=>h
  case c2=>
   have hB7:=(Blk.new (w3.drewN 1) 71 #[.string ⟨#[]⟩,.string ⟨#[]⟩]).below hb5 (Blk.new (w3.drewN 1) 71 _).lt
   have hbb:=below_setCells (b:=(w3.drewN 1).heap.size) [.string ⟨#[]⟩,.string ⟨#[]⟩] 0 _ (bl_trans hda hb5) (Nat.le_refl _)
   refine rest hbb (h5.to ⟨rfl,rfl,rfl,rfl,rfl,trivial⟩) (blk_over hB7 _ rfl) (fun he a6 h6=> ?_) (fun he a6 h6=> ?_)
   ·repeat (first | with_reducible refine then_ret ?_ | with_reducible refine block_ret ?_)
    exact hst hbb he h6
   ·exact hnx hbb he h6 _ fun a7 h=>h
 ·refine wp_seq (wp_seq (rg_wp (e2_r2 (b14:=false) h3 rfl rfl (one_load hBr Tryd.underlying54 rfl rfl) (decide_eq_false (by rw[hRow.2];omega)) fun a4 h4=>wpx (h4.look 14 rfl) ?_)))
  refine then_exit' (in_block2 ?_)
  show Code.wp _ (Code.seq (r_e2 7) .ret) _ a4 w3
  refine wp_seq (rg_wp (e2_r7 h4 fun a5 h5=>wp_ret ?_))
  refine ret1 rfl h5 rfl ⟨?_,hb03⟩
  unfold atI
  have hf:L.findIdx? (fun x=>eqO x.k d)=none:=by
   rw[List.findIdx?_eq_none_iff]
   intro x hx
   obtain⟨i,hi,e⟩:=List.getElem_of_mem hx
   exact hno i x (by omega) (by rw[<-e];exact List.getElem?_eq_getElem hi)
  rw[hf]
end Go.Proofs.YtlhfickniegooaaDoor
