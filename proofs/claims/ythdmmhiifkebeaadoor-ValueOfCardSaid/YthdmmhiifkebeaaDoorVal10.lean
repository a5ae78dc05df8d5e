/-
  Contracts of strings.Compare and of the values' own methods: Type, Datum, Hash, Len, None. Written by an AI agent.
-/
import Derived.Test.YthdmmhiifkebeaaDoorVal4
import Derived.Test.YthdmmhiifkebeaaDoorVal8
import Derived.Test.YthdmmhiifkebeaaDoorVal9
import Derived.Lib.Bytealg
namespace Go.Proofs.YthdmmhiifkebeaaDoor
open Go.RowKit Go.Sort

theorem cmpString_any (a b : ByteArray) (w : World) : Calls Tryd.prog 152 #[.string a, .string b] w fun e w' => e = .returned (.int .i64 (Lib.compareBytes a.data.toList b.data.toList)) ∧ w = w' := by
  have hx : (callFunc 153 #[.string a, .string b]).run Tryd.prog w = .ok (.value (.int .i64 (Lib.compareBytes a.data.toList b.data.toList))) w := by
    rw [run_callFunc_extern Tryd.func153 (by kernel_rfl) (by kernel_rfl) (by kernel_rfl) (e := Extern.BytealgCompare.compare) (by kernel_rfl), Lib.run_compareString]
    rfl
  go_enter Tryd.func152, Tryd.ntmps152
  go_wp2_with fail
  go_ret
  exact ⟨rfl, rfl⟩
theorem compare_any (a b : ByteArray) (w : World) : Calls Tryd.prog 151 #[.string a, .string b] w fun e w' => e = .returned (.int .i64 (Lib.compareBytes a.data.toList b.data.toList)) ∧ w = w' := by
  go_enter Tryd.func151, Tryd.ntmps151
  go_wp2_with (go_at_call 152; refine (cmpString_any _ _ _).mono ?_; rintro e w1 ⟨rfl, rfl⟩)
  go_ret
  exact ⟨rfl, rfl⟩

section
variable (h : Hd) (k : Fo) (ho : h.ok) (hk : k.ok) (hl : k.len ≤ 1034834473170) (w : World) (S : Nat → Prop) (pa : Option Addr) (pc : Nat) (ia : Option Addr) (ic : Nat) (hd : DatAt w S h k pa pc ia ic)
include ho
theorem type_any : Calls Tryd.prog 144 #[.agg (h.cells pa pc ia k.len ic)] w fun e w' => e = .returned (.string (nameS h)) ∧ Below w.heap.size w w' := by
  have he := name_any h k.len pa pc ia ic ho (w.alloc (.cells (h.cells pa pc ia k.len ic) 112))
  unfold Hd.cells at he ⊢
  have HE := Lib.hid he
  clear he
  go_enter Tryd.func144, Tryd.ntmps144
  go_wp2_with fail
  refine HE.out.mono ?_
  rintro e w1 ⟨rfl, hb1⟩
  go_wp2_with fail
  go_ret
  exact ⟨rfl, by ((repeat' (first | exact Below.refl _ _ | assumption | (refine bl_alloc ?_ _) | (refine Below.drew ?_) | (refine below_drewN ?_ _) | (refine Below.setCell ?_ ?_ _) | (refine bl_trans ?_ (by assumption)))) <;> first | omega | (simp; done) | (simp; omega))⟩
include hk hl hd
theorem truthHash_any : Calls Tryd.prog 146 #[.agg (h.cells pa pc ia k.len ic)] w fun e w' => e = .returned (.int .u64 (hashD h k)) ∧ Below w.heap.size w w' := by
  have he := hash_any h k ho hk hl (w.alloc (.cells (h.cells pa pc ia k.len ic) 114)) S pa pc ia ic (hd.keep (fun b _ h => Below.heap_alloc _ _ _ h) (fun _ h _ => h))
  unfold Hd.cells at he ⊢
  have HE := Lib.hid he
  clear he
  go_enter Tryd.func146, Tryd.ntmps146
  go_wp2_with fail
  refine HE.out.mono ?_
  rintro e w1 ⟨rfl, hb1⟩
  go_wp2_with fail
  go_ret
  exact ⟨rfl, by ((repeat' (first | exact Below.refl _ _ | assumption | (refine bl_alloc ?_ _) | (refine Below.drew ?_) | (refine below_drewN ?_ _) | (refine Below.setCell ?_ ?_ _) | (refine bl_trans ?_ (by assumption)))) <;> first | omega | (simp; done) | (simp; omega))⟩
theorem figureHash_any : Calls Tryd.prog 147 #[.agg (h.cells pa pc ia k.len ic)] w fun e w' => e = .returned (.int .u64 (hashD h k)) ∧ Below w.heap.size w w' := by
  have he := hash_any h k ho hk hl (w.alloc (.cells (h.cells pa pc ia k.len ic) 115)) S pa pc ia ic (hd.keep (fun b _ h => Below.heap_alloc _ _ _ h) (fun _ h _ => h))
  unfold Hd.cells at he ⊢
  have HE := Lib.hid he
  clear he
  go_enter Tryd.func147, Tryd.ntmps147
  go_wp2_with fail
  refine HE.out.mono ?_
  rintro e w1 ⟨rfl, hb1⟩
  go_wp2_with fail
  go_ret
  exact ⟨rfl, by ((repeat' (first | exact Below.refl _ _ | assumption | (refine bl_alloc ?_ _) | (refine Below.drew ?_) | (refine below_drewN ?_ _) | (refine Below.setCell ?_ ?_ _) | (refine bl_trans ?_ (by assumption)))) <;> first | omega | (simp; done) | (simp; omega))⟩
theorem letterHash_any : Calls Tryd.prog 154 #[.agg (h.cells pa pc ia k.len ic)] w fun e w' => e = .returned (.int .u64 (hashD h k)) ∧ Below w.heap.size w w' := by
  have he := hash_any h k ho hk hl (w.alloc (.cells (h.cells pa pc ia k.len ic) 116)) S pa pc ia ic (hd.keep (fun b _ h => Below.heap_alloc _ _ _ h) (fun _ h _ => h))
  unfold Hd.cells at he ⊢
  have HE := Lib.hid he
  clear he
  go_enter Tryd.func154, Tryd.ntmps154
  go_wp2_with fail
  refine HE.out.mono ?_
  rintro e w1 ⟨rfl, hb1⟩
  go_wp2_with fail
  go_ret
  exact ⟨rfl, by ((repeat' (first | exact Below.refl _ _ | assumption | (refine bl_alloc ?_ _) | (refine Below.drew ?_) | (refine below_drewN ?_ _) | (refine Below.setCell ?_ ?_ _) | (refine bl_trans ?_ (by assumption)))) <;> first | omega | (simp; done) | (simp; omega))⟩
theorem arrowHash_any : Calls Tryd.prog 160 #[.agg (h.cells pa pc ia k.len ic)] w fun e w' => e = .returned (.int .u64 (hashD h k)) ∧ Below w.heap.size w w' := by
  have he := hash_any h k ho hk hl (w.alloc (.cells (h.cells pa pc ia k.len ic) 119)) S pa pc ia ic (hd.keep (fun b _ h => Below.heap_alloc _ _ _ h) (fun _ h _ => h))
  unfold Hd.cells at he ⊢
  have HE := Lib.hid he
  clear he
  go_enter Tryd.func160, Tryd.ntmps160
  go_wp2_with fail
  refine HE.out.mono ?_
  rintro e w1 ⟨rfl, hb1⟩
  go_wp2_with fail
  go_ret
  exact ⟨rfl, by ((repeat' (first | exact Below.refl _ _ | assumption | (refine bl_alloc ?_ _) | (refine Below.drew ?_) | (refine below_drewN ?_ _) | (refine Below.setCell ?_ ?_ _) | (refine bl_trans ?_ (by assumption)))) <;> first | omega | (simp; done) | (simp; omega))⟩
theorem filedHash_any : Calls Tryd.prog 162 #[.agg (h.cells pa pc ia k.len ic)] w fun e w' => e = .returned (.int .u64 (hashD h k)) ∧ Below w.heap.size w w' := by
  have he := hash_any h k ho hk hl (w.alloc (.cells (h.cells pa pc ia k.len ic) 123)) S pa pc ia ic (hd.keep (fun b _ h => Below.heap_alloc _ _ _ h) (fun _ h _ => h))
  unfold Hd.cells at he ⊢
  have HE := Lib.hid he
  clear he
  go_enter Tryd.func162, Tryd.ntmps162
  go_wp2_with fail
  refine HE.out.mono ?_
  rintro e w1 ⟨rfl, hb1⟩
  go_wp2_with fail
  go_ret
  exact ⟨rfl, by ((repeat' (first | exact Below.refl _ _ | assumption | (refine bl_alloc ?_ _) | (refine Below.drew ?_) | (refine below_drewN ?_ _) | (refine Below.setCell ?_ ?_ _) | (refine bl_trans ?_ (by assumption)))) <;> first | omega | (simp; done) | (simp; omega))⟩
end
section
variable (h : Hd) (k : Nat) (w : World) (pa : Option Addr) (pc : Nat) (ia : Option Addr) (ic : Nat)
theorem letterLen_any (ho : h.ok) : Calls Tryd.prog 155 #[.agg (h.cells pa pc ia k ic)] w fun e w' => e = .returned (.int .i64 h.s.size) ∧ Below w.heap.size w w' := by
  have hs := ho.s
  unfold Hd.cells
  go_enter Tryd.func155, Tryd.ntmps155
  go_wp2_with fail
  go_ret
  exact ⟨rfl, by ((repeat' (first | exact Below.refl _ _ | assumption | (refine bl_alloc ?_ _) | (refine Below.drew ?_) | (refine below_drewN ?_ _) | (refine Below.setCell ?_ ?_ _) | (refine bl_trans ?_ (by assumption)))) <;> first | omega | (simp; done) | (simp; omega))⟩
theorem rowLen_any : Calls Tryd.prog 157 #[.agg (h.cells pa pc ia k ic)] w fun e w' => e = .returned (.int .i64 h.len) ∧ Below w.heap.size w w' := by
  unfold Hd.cells
  go_enter Tryd.func157, Tryd.ntmps157
  go_wp2_with fail
  go_ret
  exact ⟨rfl, by ((repeat' (first | exact Below.refl _ _ | assumption | (refine bl_alloc ?_ _) | (refine Below.drew ?_) | (refine below_drewN ?_ _) | (refine Below.setCell ?_ ?_ _) | (refine bl_trans ?_ (by assumption)))) <;> first | omega | (simp; done) | (simp; omega))⟩
theorem rowNone_any : Calls Tryd.prog 158 #[.agg (h.cells pa pc ia k ic)] w fun e w' => e = .returned (.bool (decide (h.obj = 0))) ∧ Below w.heap.size w w' := by
  unfold Hd.cells
  go_enter Tryd.func158, Tryd.ntmps158
  go_wp2_with fail
  go_ret
  exact ⟨rfl, by ((repeat' (first | exact Below.refl _ _ | assumption | (refine bl_alloc ?_ _) | (refine Below.drew ?_) | (refine below_drewN ?_ _) | (refine Below.setCell ?_ ?_ _) | (refine bl_trans ?_ (by assumption)))) <;> first | omega | (simp; done) | (simp; omega))⟩
theorem leadNone_any : Calls Tryd.prog 159 #[.agg (h.cells pa pc ia k ic)] w fun e w' => e = .returned (.bool (decide (h.obj = 0))) ∧ Below w.heap.size w w' := by
  unfold Hd.cells
  go_enter Tryd.func159, Tryd.ntmps159
  go_wp2_with fail
  go_ret
  exact ⟨rfl, by ((repeat' (first | exact Below.refl _ _ | assumption | (refine bl_alloc ?_ _) | (refine Below.drew ?_) | (refine below_drewN ?_ _) | (refine Below.setCell ?_ ?_ _) | (refine bl_trans ?_ (by assumption)))) <;> first | omega | (simp; done) | (simp; omega))⟩
theorem arrowNone_any : Calls Tryd.prog 161 #[.agg (h.cells pa pc ia k ic)] w fun e w' => e = .returned (.bool (decide (h.obj = 0))) ∧ Below w.heap.size w w' := by
  unfold Hd.cells
  go_enter Tryd.func161, Tryd.ntmps161
  go_wp2_with fail
  go_ret
  exact ⟨rfl, by ((repeat' (first | exact Below.refl _ _ | assumption | (refine bl_alloc ?_ _) | (refine Below.drew ?_) | (refine below_drewN ?_ _) | (refine Below.setCell ?_ ?_ _) | (refine bl_trans ?_ (by assumption)))) <;> first | omega | (simp; done) | (simp; omega))⟩
end
end Go.Proofs.YthdmmhiifkebeaaDoor
