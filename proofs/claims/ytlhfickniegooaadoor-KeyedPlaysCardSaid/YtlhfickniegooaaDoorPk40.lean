/-
   Written by an AI agent.
-/
import Derived.Test.YtlhfickniegooaaDoorPk02
import Derived.Test.YtlhfickniegooaaDoorPk39
namespace Go.Proofs.YtlhfickniegooaaDoor
open Go.RowKit Go.ChangeShapes Go.WideShapes
set_option maxRecDepth 100000
section
variable {H:Type} {enc:TypeId×Value->H} {w:World}
theorem cellsT:Tryd.prog.cellsOf 59=49:=by kernel_rfl
theorem cut_at{α:Type}(cs:List α)(i n:Nat):cs.drop i=(cs.drop i).take n++cs.drop (i+n):=by
 rw[<-List.drop_drop,List.take_append_drop]
theorem dtm_of{cs:List Value}(h:DatIs w cs): ∃(d:Dt) (m:Dm),cs=(d.cs m).toList/\d.ok/\d.at w (fun b=>b<w.heap.size) m:=by
 obtain⟨h,k,pa,pc,ia,ic,e,ho,hk,hl,hd⟩:=h
 exact⟨⟨h,k⟩,⟨pa,pc,ia,ic⟩,e,⟨ho,hk,hl⟩,Dt.at.keep (d:=⟨h,k⟩) (m:=⟨pa,pc,ia,ic⟩) hd (fun _ _ _=>rfl) (fun b _ hb=>hb)⟩
theorem sp_of{fuel:Nat}{cs:List Value}{x:DataW H×List MemPlace}(h:DataW.trod enc Tryd.prog w 0 (fun _=>true) true fuel 59 cs=some x)(hw:light 59 x.1): ∃s:Sp,cs=s.cs.toList/\SpOk w s:=by
 obtain⟨xs,n,rfl,rfl,hl,hlen,hg⟩:=DataW.trod_struct Tryd.underlying59 h
 rw[cellsT] at hl
 match xs,hlen with
 | [x0,x1,x2,x3,x4,x5,x6,x7,x8],_=>
 have hwe: ∀(i:Nat) (t:TypeId) (d:DataW H),[3,3,31,31,3,3,3,31,31][i]? =some t->[x0.1,x1.1,x2.1,x3.1,x4.1,x5.1,x6.1,x7.1,x8.1][i]? =some d->light t d:=fun i t d h1 h2 m hm=>hw m (by
  simp only[DataW.weights,Tryd.underlying59]
  exact(weights_each _ _).2 ⟨i,t,d,h1,h2,hm⟩)
 have g0:DataW.trod enc Tryd.prog w 0 (fun _=>true) true n 3 ((cs.drop 0).take (Tryd.prog.cellsOf 3))=some x0:=hg 0 _ rfl
 have g1:DataW.trod enc Tryd.prog w 0 (fun _=>true) true n 3 ((cs.drop 1).take (Tryd.prog.cellsOf 3))=some x1:=hg 1 _ rfl
 have g2:DataW.trod enc Tryd.prog w 0 (fun _=>true) true n 31 ((cs.drop 2).take (Tryd.prog.cellsOf 31))=some x2:=hg 2 _ rfl
 have g3:DataW.trod enc Tryd.prog w 0 (fun _=>true) true n 31 ((cs.drop 13).take (Tryd.prog.cellsOf 31))=some x3:=hg 3 _ rfl
 have g4:DataW.trod enc Tryd.prog w 0 (fun _=>true) true n 3 ((cs.drop 24).take (Tryd.prog.cellsOf 3))=some x4:=hg 4 _ rfl
 have g5:DataW.trod enc Tryd.prog w 0 (fun _=>true) true n 3 ((cs.drop 25).take (Tryd.prog.cellsOf 3))=some x5:=hg 5 _ rfl
 have g6:DataW.trod enc Tryd.prog w 0 (fun _=>true) true n 3 ((cs.drop 26).take (Tryd.prog.cellsOf 3))=some x6:=hg 6 _ rfl
 have g7:DataW.trod enc Tryd.prog w 0 (fun _=>true) true n 31 ((cs.drop 27).take (Tryd.prog.cellsOf 31))=some x7:=hg 7 _ rfl
 have g8:DataW.trod enc Tryd.prog w 0 (fun _=>true) true n 31 ((cs.drop 38).take (Tryd.prog.cellsOf 31))=some x8:=hg 8 _ rfl
 clear hg
 rw[cellsI] at g0 g1 g4 g5 g6
 rw[cellsD] at g2 g3 g7 g8
 obtain⟨kind,e0,_,w0⟩:=DataW.trod_int Tryd.underlying3 g0
 obtain⟨on,e1,_,w1⟩:=DataW.trod_int Tryd.underlying3 g1
 obtain⟨leave,e4,_,w4⟩:=DataW.trod_int Tryd.underlying3 g4
 obtain⟨turn,e5,_,w5⟩:=DataW.trod_int Tryd.underlying3 g5
 obtain⟨inn,e6,_,w6⟩:=DataW.trod_int Tryd.underlying3 g6
 obtain⟨k,dk,e2,o2⟩:=dtm_of (dat_of n _ _ g2 (hwe 2 _ _ rfl rfl))
 obtain⟨v,dv,e3,o3⟩:=dtm_of (dat_of n _ _ g3 (hwe 3 _ _ rfl rfl))
 obtain⟨k2,dk2,e7,o7⟩:=dtm_of (dat_of n _ _ g7 (hwe 7 _ _ rfl rfl))
 obtain⟨v2,dv2,e8,o8⟩:=dtm_of (dat_of n _ _ g8 (hwe 8 _ _ rfl rfl))
 refine⟨⟨kind,on,k,v,leave,turn,inn,k2,v2,dk,dv,dk2,dv2⟩, ?_,⟨okInt_wf w0,okInt_wf w1,okInt_wf w4,okInt_wf w5,okInt_wf w6,o2,o3,o7,o8⟩⟩
 have e9:cs.drop 49=[]:=List.drop_of_length_le (by omega)
 have hc:cs=cs.drop 0:=rfl
 rw[hc,cut_at cs 0 1,e0,cut_at cs (0+1) 1,e1,cut_at cs (0+1+1) 11,e2,cut_at cs (0+1+1+11) 11,e3,cut_at cs (0+1+1+11+11) 1,e4,cut_at cs (0+1+1+11+11+1) 1,e5,cut_at cs (0+1+1+11+11+1+1) 1,e6,cut_at cs (0+1+1+11+11+1+1+1) 11,e7,cut_at cs (0+1+1+11+11+1+1+1+11) 11,e8,e9]
 rfl
theorem steps_of{n:Nat}: ∀(els:List (DataW H×List MemPlace)) (b o:Nat),(∀i,i<els.length->(w.cells? 0 ⟨b,o+i*49,none⟩ 49).bind (DataW.trod enc Tryd.prog w 0 (fun _=>true) true n 59)=els[i]?)->(∀y∈els,light 59 y.1)->
  ∃xs:List Sp,xs.length=els.length/\∀(j:Nat) (x:Sp),xs[j]? =some x->CellsAt w b (o+j*49) x.cs/\SpOk w x
 | [],_,_,_,_=>⟨[],rfl,fun j x h=>by simp at h⟩
 | y::els,b,o,hg,hw=>by
  obtain⟨r,r1,r2⟩:=steps_of els b (o+49) (fun i hi=>by
   have:=hg (i+1) (by simpa using hi)
   rw[show o+49+i*49=o+(i+1)*49 by omega]
   simpa using this) (fun z hz=>hw z (List.mem_cons_of_mem _ hz))
  have h0:=hg 0 (by simp)
  simp only[Nat.zero_mul,Nat.add_zero,List.getElem?_cons_zero] at h0
  obtain⟨cs,hc,ht⟩:=Option.bind_eq_some_iff.1 h0
  obtain⟨s,e,ok⟩:=sp_of ht (hw y List.mem_cons_self)
  have hcell:=cells_at hc
  rw[e] at hcell
  refine⟨s::r,by simp[r1],fun j x hx=> ?_⟩
  cases j with
  | zero=>
   simp only[List.getElem?_cons_zero,Option.some.injEq] at hx
   subst hx
   rw[Nat.zero_mul,Nat.add_zero]
   exact⟨hcell,ok⟩
  | succ j=>
   have:=r2 j x (by simpa using hx)
   rw[show o+49+j*49=o+(j+1)*49 by omega] at this
   exact this
end
theorem sp_len(x:Sp):(x.cs)[0]? =some (.int .i64 x.kind):=rfl
theorem steps_arg{H:Type}{enc:TypeId×Value->H}{W:World}{base:Nat}{v:Value}{d:DataW H}{p:List MemPlace}(hv:Value.okWide Tryd.prog W .any base 46 v)
  (h:DataW.Trod enc Tryd.prog W 0 (fun _=>true) true 46 v d p) (hw:light 46 d):
  ∃(l:List Sp) (pa:Option Addr) (pc:Nat),v=.slice pa l.length pc/\StepsAt W pa l:=by
 obtain⟨a,len,cap,rfl⟩:=okWide_slice Tryd.underlying46 hv
 obtain⟨fuel,hf⟩:=h
 rcases DataW.trod_slice Tryd.underlying46 hf with⟨e6,_⟩ | ⟨a',il,ic,elems,rest,n',en,e6,ed,_,hle,hm,hel,hget,_,_⟩
 ·simp[Value.cells] at e6
  obtain⟨rfl,rfl,rfl⟩:=e6
  exact⟨[],none,0,rfl,fun j x h=>by simp at h⟩
 ·simp[Value.cells] at e6
  obtain⟨rfl,rfl,rfl⟩:=e6
  rcases Nat.eq_zero_or_pos len with h0 | h0
  ·exact⟨[],some a',cap,by rw[h0];rfl,fun j x h=>by simp at h⟩
  ·have hwl: ∀y∈elems,light 59 y.1:=fun y hy m hm=>hw m (by
    have ed1:=congrArg Prod.fst ed
    simp only at ed1
    rw[ed1]
    simp only[DataW.weights,Tryd.underlying46]
    refine List.mem_cons.2 (.inr (List.mem_append.2 (.inl ((weights_all _).2 ⟨y.1,List.mem_map.2 ⟨y,hy,rfl⟩,hm⟩)))))
   have hg0:=hget 0 h0
   rw[List.getElem?_eq_getElem (by omega),cellsT] at hg0
   obtain⟨cs0,hc0,_⟩:=Option.bind_eq_some_iff.1 hg0
   obtain⟨b,o,ea⟩:=cells_spot hc0 (by decide)
   have ea':a'=⟨b,o,none⟩:=by
    simp only[Nat.zero_mul] at ea
    simpa[Addr.add] using ea
   subst ea'
   obtain⟨xs,r1,r2⟩:=steps_of (n:=n') elems b o (fun i hi=>by
    have:=hget i (by omega)
    rw[cellsT,add_at] at this
    exact this) hwl
   have hxl:xs.length=len:=by omega
   refine⟨xs,some ⟨b,o,none⟩,cap,by rw[hxl],fun j x hx=> ?_⟩
   obtain⟨z0,z1⟩:=r2 j x hx
   exact⟨b,o,rfl,cell_lt (z0 0 _ (sp_len x)),z0,z1⟩
end Go.Proofs.YtlhfickniegooaaDoor
