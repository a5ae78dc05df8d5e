/-
  Contracts of the reference's right and fields, and of Right. Written by an AI agent.
-/
import Derived.Test.YthdmmhiifkebeaaDoorLaw2
import Derived.Test.YthdmmhiifkebeaaDoorRefN
import Derived.Test.YthdmmhiifkebeaaDoorRef5
import Derived.Deep.CutBlock
namespace Go.Proofs.YthdmmhiifkebeaaDoor
open Go.RowKit Go.Sort

def RRC (h : Hd) (k : Fo) : Prop := ∀ (deep : Int) (w : World) (S : Nat → Prop) (pa : Option Addr) (pc : Nat) (ia : Option Addr) (ic : Nat), 0 ≤ deep → deep ≤ 101 → DatAt w S h k pa pc ia ic →
  Calls Tryd.prog 58 #[.agg (h.cells pa pc ia k.len ic), .int .i64 deep] w fun e w' => e = .returned (.bool (rrD deep h k)) ∧ Below w.heap.size w w'
def FieldsC (h : Hd) (k : Fo) : Prop := ∀ (deep : Int) (w : World) (S : Nat → Prop) (pa : Option Addr) (pc : Nat) (ia : Option Addr) (ic : Nat), 0 ≤ deep → deep ≤ 100 → DatAt w S h k pa pc ia ic →
  Calls Tryd.prog 99 #[.agg (h.cells pa pc ia k.len ic), .int .i64 deep] w fun e w' => e = .returned (.bool ((declB h.type && (rplainB h k.len false false false false true && decide (k.len ≤ 30))) && rrF (deep + 1) k)) ∧ Below w.heap.size w w'

set_option maxRecDepth 100000 in
set_option maxHeartbeats 4000000 in
theorem rr_0 (h : Hd) (k : Fo) (ho : h.ok) (hk : h.kind = 0) : RRC h k := by
  intro deep w S pa pc ia ic h1 h2 hd
  by_cases hdp : 100 < deep
  · have HR : Hid (rrD deep h k = false) := Lib.hid (by unfold rrD; rw [decide_eq_false (by omega)]; rfl)
    unfold Hd.cells
    clear hk
    go_enter Tryd.func58, Tryd.ntmps58
    go_wp2_with fail
    go_ret
    exact ⟨ret_bool HR.out.symm, by ((repeat' (first | exact Below.refl _ _ | assumption | (refine bl_alloc ?_ _) | (refine Below.drew ?_) | (refine below_drewN ?_ _) | (refine Below.setCell ?_ ?_ _) | (refine bl_trans ?_ (by assumption)))) <;> first | omega | (simp; done) | (simp; omega))⟩
  have hdp : deep ≤ 100 := by omega
  have HR := Lib.hid ((rr_leaf deep h k (by omega) hdp).trans (head0 h k.len hk))
  have HP : Hid (∀ w', Below w.heap.size w w' → PathAt w' (fun _ => True) pa h.path) := Lib.hid (fun w' hb => hd.path.keep (fun b _ hlt => hb.block b hlt) (fun _ _ _ => trivial))
  have hts := ho.type
  have hf0 := ho.f0
  have hf9 := ho.f1
  have hfr := ho.frm
  have hpl : h.path.length ≤ 9223372036854775807 := by have := ho.path; omega
  clear hd
  have hplain := fun n f s r t hc w => rplain_any h k.len pa pc ia ic n f s r t hc w
  have HK := Lib.hid hk
  unfold Hd.cells at hplain ⊢
  simp only [hk] at hplain HR ⊢
  have HPL := Lib.hid hplain
  clear hk hplain
  go_enter Tryd.func58, Tryd.ntmps58
  go_wp2_with (first
        | (go_at_call 100; refine (rdecl_any _ hts _).mono ?_; rintro e w1 ⟨rfl, hb1⟩; obtain ⟨hc1, hf1⟩ := bcell hb1; have hz1 : w.heap.size < w1.heap.size := by (have hz := hb1.size; (try simp at hz); omega))
        | (go_at_call 97; refine (rtyped_any _ (by omega) (by omega) _ hts _).mono ?_; rintro e w1 ⟨rfl, hb1⟩; obtain ⟨hc1, hf1⟩ := bcell hb1; have hz1 : w.heap.size < w1.heap.size := by (have hz := hb1.size; (try simp at hz); omega))
        | (go_at_call 96; refine (HPL.out _ _ _ _ _ (by simp [oneOf]) _).mono ?_; rintro e w2 ⟨rfl, hb2⟩; obtain ⟨hc2, hf2⟩ := bcell hb2; have hz2 : w.heap.size < w2.heap.size := by (have hz := hb2.size; (try simp at hz); omega))
        | (go_at_call 64; refine (risNaN_any _ hf0 hf9 _).mono ?_; rintro e w3 ⟨rfl, rfl⟩)
        | (go_at_call 98; refine (rleads_any _ _ _ _ _ (by unfold kind4; omega) _ _ _ _ hpl hfr (by exact HP.out _ (by ((repeat' (first | exact Below.refl _ _ | assumption | (refine bl_alloc ?_ _) | (refine Below.drew ?_) | (refine below_drewN ?_ _) | (refine Below.setCell ?_ ?_ _) | (refine bl_trans ?_ (by assumption)))) <;> first | omega | (simp; done) | (simp; omega))))).mono ?_; rintro e w4 ⟨rfl, hb4⟩))
  all_goals
    go_ret
    refine ⟨ret_bool (HR.out.trans ?_).symm, by ((repeat' (first | exact Below.refl _ _ | assumption | (refine bl_alloc ?_ _) | (refine Below.drew ?_) | (refine below_drewN ?_ _) | (refine Below.setCell ?_ ?_ _) | (refine bl_trans ?_ (by assumption)))) <;> first | omega | (simp; done) | (simp; omega))⟩
    first | (simp [*]; done) | (simp [nanNo, *]; rw [Bool.eq_iff_iff]; simp [*]; done) | (simp [nanNo, *]; rw [Bool.eq_iff_iff]; grind) | (simp only [‹typedB _ _ = true›, ‹rplainB _ _ _ _ _ _ _ = true›, Bool.true_and]; rw [decide_eq_decide]; omega)

set_option maxRecDepth 100000 in
set_option maxHeartbeats 4000000 in
theorem rr_12 (h : Hd) (k : Fo) (ho : h.ok) (hk : h.kind = 1 ∨ h.kind = 2) : RRC h k := by
  intro deep w S pa pc ia ic h1 h2 hd
  by_cases hdp : 100 < deep
  · have HR : Hid (rrD deep h k = false) := Lib.hid (by unfold rrD; rw [decide_eq_false (by omega)]; rfl)
    unfold Hd.cells
    clear hk
    go_enter Tryd.func58, Tryd.ntmps58
    go_wp2_with fail
    go_ret
    exact ⟨ret_bool HR.out.symm, by ((repeat' (first | exact Below.refl _ _ | assumption | (refine bl_alloc ?_ _) | (refine Below.drew ?_) | (refine below_drewN ?_ _) | (refine Below.setCell ?_ ?_ _) | (refine bl_trans ?_ (by assumption)))) <;> first | omega | (simp; done) | (simp; omega))⟩
  have hdp : deep ≤ 100 := by omega
  have HR := Lib.hid ((rr_leaf deep h k (by omega) hdp).trans (head12 h k.len hk))
  have HP : Hid (∀ w', Below w.heap.size w w' → PathAt w' (fun _ => True) pa h.path) := Lib.hid (fun w' hb => hd.path.keep (fun b _ hlt => hb.block b hlt) (fun _ _ _ => trivial))
  have hts := ho.type
  have hf0 := ho.f0
  have hf9 := ho.f1
  have hfr := ho.frm
  have hpl : h.path.length ≤ 9223372036854775807 := by have := ho.path; omega
  clear hd
  rcases hk with hk | hk
  all_goals
    have hplain := fun n f s r t hc w => rplain_any h k.len pa pc ia ic n f s r t hc w
    have HK := Lib.hid hk
    unfold Hd.cells at hplain ⊢
    simp only [hk] at hplain HR ⊢
    have HPL := Lib.hid hplain
    clear hk hplain
    go_enter Tryd.func58, Tryd.ntmps58
    go_wp2_with (first
          | (go_at_call 100; refine (rdecl_any _ hts _).mono ?_; rintro e w1 ⟨rfl, hb1⟩; obtain ⟨hc1, hf1⟩ := bcell hb1; have hz1 : w.heap.size < w1.heap.size := by (have hz := hb1.size; (try simp at hz); omega))
          | (go_at_call 97; refine (rtyped_any _ (by omega) (by omega) _ hts _).mono ?_; rintro e w1 ⟨rfl, hb1⟩; obtain ⟨hc1, hf1⟩ := bcell hb1; have hz1 : w.heap.size < w1.heap.size := by (have hz := hb1.size; (try simp at hz); omega))
          | (go_at_call 96; refine (HPL.out _ _ _ _ _ (by simp [oneOf]) _).mono ?_; rintro e w2 ⟨rfl, hb2⟩; obtain ⟨hc2, hf2⟩ := bcell hb2; have hz2 : w.heap.size < w2.heap.size := by (have hz := hb2.size; (try simp at hz); omega))
          | (go_at_call 64; refine (risNaN_any _ hf0 hf9 _).mono ?_; rintro e w3 ⟨rfl, rfl⟩)
          | (go_at_call 98; refine (rleads_any _ _ _ _ _ (by unfold kind4; omega) _ _ _ _ hpl hfr (by exact HP.out _ (by ((repeat' (first | exact Below.refl _ _ | assumption | (refine bl_alloc ?_ _) | (refine Below.drew ?_) | (refine below_drewN ?_ _) | (refine Below.setCell ?_ ?_ _) | (refine bl_trans ?_ (by assumption)))) <;> first | omega | (simp; done) | (simp; omega))))).mono ?_; rintro e w4 ⟨rfl, hb4⟩))
    all_goals
      go_ret
      refine ⟨ret_bool (HR.out.trans ?_).symm, by ((repeat' (first | exact Below.refl _ _ | assumption | (refine bl_alloc ?_ _) | (refine Below.drew ?_) | (refine below_drewN ?_ _) | (refine Below.setCell ?_ ?_ _) | (refine bl_trans ?_ (by assumption)))) <;> first | omega | (simp; done) | (simp; omega))⟩
      first | (simp [*]; done) | (simp [*]; rw [Bool.eq_iff_iff]; simp [*]; done) | (simp [nanNo, *]; rw [Bool.eq_iff_iff]; grind) | (simp only [‹typedB _ _ = true›, ‹rplainB _ _ _ _ _ _ _ = true›, Bool.true_and]; rw [decide_eq_decide]; omega)

set_option maxRecDepth 100000 in
set_option maxHeartbeats 4000000 in
theorem rr_3 (h : Hd) (k : Fo) (ho : h.ok) (hk : h.kind = 3) : RRC h k := by
  intro deep w S pa pc ia ic h1 h2 hd
  by_cases hdp : 100 < deep
  · have HR : Hid (rrD deep h k = false) := Lib.hid (by unfold rrD; rw [decide_eq_false (by omega)]; rfl)
    unfold Hd.cells
    clear hk
    go_enter Tryd.func58, Tryd.ntmps58
    go_wp2_with fail
    go_ret
    exact ⟨ret_bool HR.out.symm, by ((repeat' (first | exact Below.refl _ _ | assumption | (refine bl_alloc ?_ _) | (refine Below.drew ?_) | (refine below_drewN ?_ _) | (refine Below.setCell ?_ ?_ _) | (refine bl_trans ?_ (by assumption)))) <;> first | omega | (simp; done) | (simp; omega))⟩
  have hdp : deep ≤ 100 := by omega
  have HR := Lib.hid ((rr_leaf deep h k (by omega) hdp).trans (head3 h k.len hk))
  have HP : Hid (∀ w', Below w.heap.size w w' → PathAt w' (fun _ => True) pa h.path) := Lib.hid (fun w' hb => hd.path.keep (fun b _ hlt => hb.block b hlt) (fun _ _ _ => trivial))
  have hts := ho.type
  have hf0 := ho.f0
  have hf9 := ho.f1
  have hfr := ho.frm
  have hpl : h.path.length ≤ 9223372036854775807 := by have := ho.path; omega
  clear hd
  have hplain := fun n f s r t hc w => rplain_any h k.len pa pc ia ic n f s r t hc w
  have HK := Lib.hid hk
  unfold Hd.cells at hplain ⊢
  simp only [hk] at hplain HR ⊢
  have HPL := Lib.hid hplain
  clear hk hplain
  go_enter Tryd.func58, Tryd.ntmps58
  go_wp2_with (first
        | (go_at_call 100; refine (rdecl_any _ hts _).mono ?_; rintro e w1 ⟨rfl, hb1⟩; obtain ⟨hc1, hf1⟩ := bcell hb1; have hz1 : w.heap.size < w1.heap.size := by (have hz := hb1.size; (try simp at hz); omega))
        | (go_at_call 97; refine (rtyped_any _ (by omega) (by omega) _ hts _).mono ?_; rintro e w1 ⟨rfl, hb1⟩; obtain ⟨hc1, hf1⟩ := bcell hb1; have hz1 : w.heap.size < w1.heap.size := by (have hz := hb1.size; (try simp at hz); omega))
        | (go_at_call 96; refine (HPL.out _ _ _ _ _ (by simp [oneOf]) _).mono ?_; rintro e w2 ⟨rfl, hb2⟩; obtain ⟨hc2, hf2⟩ := bcell hb2; have hz2 : w.heap.size < w2.heap.size := by (have hz := hb2.size; (try simp at hz); omega))
        | (go_at_call 64; refine (risNaN_any _ hf0 hf9 _).mono ?_; rintro e w3 ⟨rfl, rfl⟩)
        | (go_at_call 98; refine (rleads_any _ _ _ _ _ (by unfold kind4; omega) _ _ _ _ hpl hfr (by exact HP.out _ (by ((repeat' (first | exact Below.refl _ _ | assumption | (refine bl_alloc ?_ _) | (refine Below.drew ?_) | (refine below_drewN ?_ _) | (refine Below.setCell ?_ ?_ _) | (refine bl_trans ?_ (by assumption)))) <;> first | omega | (simp; done) | (simp; omega))))).mono ?_; rintro e w4 ⟨rfl, hb4⟩))
  all_goals
    go_ret
    refine ⟨ret_bool (HR.out.trans ?_).symm, by ((repeat' (first | exact Below.refl _ _ | assumption | (refine bl_alloc ?_ _) | (refine Below.drew ?_) | (refine below_drewN ?_ _) | (refine Below.setCell ?_ ?_ _) | (refine bl_trans ?_ (by assumption)))) <;> first | omega | (simp; done) | (simp; omega))⟩
    first | (simp [*]; done) | (simp [nanNo, *]; rw [Bool.eq_iff_iff]; simp [*]; done) | (simp [nanNo, *]; rw [Bool.eq_iff_iff]; grind) | (simp only [‹typedB _ _ = true›, ‹rplainB _ _ _ _ _ _ _ = true›, Bool.true_and]; rw [decide_eq_decide]; omega)

set_option maxRecDepth 100000 in
set_option maxHeartbeats 4000000 in
theorem rr_4 (h : Hd) (k : Fo) (ho : h.ok) (hk : h.kind = 4) : RRC h k := by
  intro deep w S pa pc ia ic h1 h2 hd
  by_cases hdp : 100 < deep
  · have HR : Hid (rrD deep h k = false) := Lib.hid (by unfold rrD; rw [decide_eq_false (by omega)]; rfl)
    unfold Hd.cells
    clear hk
    go_enter Tryd.func58, Tryd.ntmps58
    go_wp2_with fail
    go_ret
    exact ⟨ret_bool HR.out.symm, by ((repeat' (first | exact Below.refl _ _ | assumption | (refine bl_alloc ?_ _) | (refine Below.drew ?_) | (refine below_drewN ?_ _) | (refine Below.setCell ?_ ?_ _) | (refine bl_trans ?_ (by assumption)))) <;> first | omega | (simp; done) | (simp; omega))⟩
  have hdp : deep ≤ 100 := by omega
  have HR := Lib.hid ((rr_leaf deep h k (by omega) hdp).trans (head4 h k.len hk))
  have HP : Hid (∀ w', Below w.heap.size w w' → PathAt w' (fun _ => True) pa h.path) := Lib.hid (fun w' hb => hd.path.keep (fun b _ hlt => hb.block b hlt) (fun _ _ _ => trivial))
  have hts := ho.type
  have hf0 := ho.f0
  have hf9 := ho.f1
  have hfr := ho.frm
  have hpl : h.path.length ≤ 9223372036854775807 := by have := ho.path; omega
  clear hd
  have hplain := fun n f s r t hc w => rplain_any h k.len pa pc ia ic n f s r t hc w
  have HK := Lib.hid hk
  unfold Hd.cells at hplain ⊢
  simp only [hk] at hplain HR ⊢
  have HPL := Lib.hid hplain
  clear hk hplain
  go_enter Tryd.func58, Tryd.ntmps58
  go_wp2_with (first
        | (go_at_call 100; refine (rdecl_any _ hts _).mono ?_; rintro e w1 ⟨rfl, hb1⟩; obtain ⟨hc1, hf1⟩ := bcell hb1; have hz1 : w.heap.size < w1.heap.size := by (have hz := hb1.size; (try simp at hz); omega))
        | (go_at_call 97; refine (rtyped_any _ (by omega) (by omega) _ hts _).mono ?_; rintro e w1 ⟨rfl, hb1⟩; obtain ⟨hc1, hf1⟩ := bcell hb1; have hz1 : w.heap.size < w1.heap.size := by (have hz := hb1.size; (try simp at hz); omega))
        | (go_at_call 96; refine (HPL.out _ _ _ _ _ (by simp [oneOf]) _).mono ?_; rintro e w2 ⟨rfl, hb2⟩; obtain ⟨hc2, hf2⟩ := bcell hb2; have hz2 : w.heap.size < w2.heap.size := by (have hz := hb2.size; (try simp at hz); omega))
        | (go_at_call 64; refine (risNaN_any _ hf0 hf9 _).mono ?_; rintro e w3 ⟨rfl, rfl⟩)
        | (go_at_call 98; refine (rleads_any _ _ _ _ _ (by unfold kind4; omega) _ _ _ _ hpl hfr (by exact HP.out _ (by ((repeat' (first | exact Below.refl _ _ | assumption | (refine bl_alloc ?_ _) | (refine Below.drew ?_) | (refine below_drewN ?_ _) | (refine Below.setCell ?_ ?_ _) | (refine bl_trans ?_ (by assumption)))) <;> first | omega | (simp; done) | (simp; omega))))).mono ?_; rintro e w4 ⟨rfl, hb4⟩))
  all_goals
    go_ret
    refine ⟨ret_bool (HR.out.trans ?_).symm, by ((repeat' (first | exact Below.refl _ _ | assumption | (refine bl_alloc ?_ _) | (refine Below.drew ?_) | (refine below_drewN ?_ _) | (refine Below.setCell ?_ ?_ _) | (refine bl_trans ?_ (by assumption)))) <;> first | omega | (simp; done) | (simp; omega))⟩
    first | (simp [*]; done) | (simp [*]; rw [Bool.eq_iff_iff]; simp [*]; done) | (simp [*]; rw [Bool.eq_iff_iff]; grind) | (simp only [‹typedB _ _ = true›, ‹rplainB _ _ _ _ _ _ _ = true›, Bool.true_and]; rw [decide_eq_decide]; omega)

set_option maxRecDepth 100000 in
set_option maxHeartbeats 4000000 in
theorem rr_567 (h : Hd) (k : Fo) (ho : h.ok) (hk : h.kind = 5 ∨ h.kind = 6 ∨ h.kind = 7) : RRC h k := by
  intro deep w S pa pc ia ic h1 h2 hd
  by_cases hdp : 100 < deep
  · have HR : Hid (rrD deep h k = false) := Lib.hid (by unfold rrD; rw [decide_eq_false (by omega)]; rfl)
    unfold Hd.cells
    clear hk
    go_enter Tryd.func58, Tryd.ntmps58
    go_wp2_with fail
    go_ret
    exact ⟨ret_bool HR.out.symm, by ((repeat' (first | exact Below.refl _ _ | assumption | (refine bl_alloc ?_ _) | (refine Below.drew ?_) | (refine below_drewN ?_ _) | (refine Below.setCell ?_ ?_ _) | (refine bl_trans ?_ (by assumption)))) <;> first | omega | (simp; done) | (simp; omega))⟩
  have hdp : deep ≤ 100 := by omega
  have HR := Lib.hid ((rr_leaf deep h k (by omega) hdp).trans (head567 h k.len hk))
  have HP : Hid (∀ w', Below w.heap.size w w' → PathAt w' (fun _ => True) pa h.path) := Lib.hid (fun w' hb => hd.path.keep (fun b _ hlt => hb.block b hlt) (fun _ _ _ => trivial))
  have hts := ho.type
  have hf0 := ho.f0
  have hf9 := ho.f1
  have hfr := ho.frm
  have hpl : h.path.length ≤ 9223372036854775807 := by have := ho.path; omega
  clear hd
  rcases hk with hk | hk | hk
  all_goals
    have hplain := fun n f s r t hc w => rplain_any h k.len pa pc ia ic n f s r t hc w
    have HK := Lib.hid hk
    unfold Hd.cells at hplain ⊢
    simp only [hk] at hplain HR ⊢
    have HPL := Lib.hid hplain
    clear hk hplain
    go_enter Tryd.func58, Tryd.ntmps58
    go_wp2_with (first
          | (go_at_call 100; refine (rdecl_any _ hts _).mono ?_; rintro e w1 ⟨rfl, hb1⟩; obtain ⟨hc1, hf1⟩ := bcell hb1; have hz1 : w.heap.size < w1.heap.size := by (have hz := hb1.size; (try simp at hz); omega))
          | (go_at_call 97; refine (rtyped_any _ (by omega) (by omega) _ hts _).mono ?_; rintro e w1 ⟨rfl, hb1⟩; obtain ⟨hc1, hf1⟩ := bcell hb1; have hz1 : w.heap.size < w1.heap.size := by (have hz := hb1.size; (try simp at hz); omega))
          | (go_at_call 96; refine (HPL.out _ _ _ _ _ (by simp [oneOf]) _).mono ?_; rintro e w2 ⟨rfl, hb2⟩; obtain ⟨hc2, hf2⟩ := bcell hb2; have hz2 : w.heap.size < w2.heap.size := by (have hz := hb2.size; (try simp at hz); omega))
          | (go_at_call 64; refine (risNaN_any _ hf0 hf9 _).mono ?_; rintro e w3 ⟨rfl, rfl⟩)
          | (go_at_call 98; refine (rleads_any _ _ _ _ _ (by unfold kind4; omega) _ _ _ _ hpl hfr (by exact HP.out _ (by ((repeat' (first | exact Below.refl _ _ | assumption | (refine bl_alloc ?_ _) | (refine Below.drew ?_) | (refine below_drewN ?_ _) | (refine Below.setCell ?_ ?_ _) | (refine bl_trans ?_ (by assumption)))) <;> first | omega | (simp; done) | (simp; omega))))).mono ?_; rintro e w4 ⟨rfl, hb4⟩))
    all_goals
      go_ret
      refine ⟨ret_bool (HR.out.trans ?_).symm, by ((repeat' (first | exact Below.refl _ _ | assumption | (refine bl_alloc ?_ _) | (refine Below.drew ?_) | (refine below_drewN ?_ _) | (refine Below.setCell ?_ ?_ _) | (refine bl_trans ?_ (by assumption)))) <;> first | omega | (simp; done) | (simp; omega))⟩
      first | (simp [*]; done) | (simp [nanNo, *]; rw [Bool.eq_iff_iff]; simp [*]; done) | (simp [nanNo, *]; rw [Bool.eq_iff_iff]; grind) | (simp only [‹typedB _ _ = true›, ‹rplainB _ _ _ _ _ _ _ = true›, Bool.true_and]; rw [decide_eq_decide]; omega)

set_option maxRecDepth 100000 in
set_option maxHeartbeats 4000000 in
theorem rr_9 (h : Hd) (k : Fo) (ho : h.ok) (hk : h.kind = 9) : RRC h k := by
  intro deep w S pa pc ia ic h1 h2 hd
  by_cases hdp : 100 < deep
  · have HR : Hid (rrD deep h k = false) := Lib.hid (by unfold rrD; rw [decide_eq_false (by omega)]; rfl)
    unfold Hd.cells
    clear hk
    go_enter Tryd.func58, Tryd.ntmps58
    go_wp2_with fail
    go_ret
    exact ⟨ret_bool HR.out.symm, by ((repeat' (first | exact Below.refl _ _ | assumption | (refine bl_alloc ?_ _) | (refine Below.drew ?_) | (refine below_drewN ?_ _) | (refine Below.setCell ?_ ?_ _) | (refine bl_trans ?_ (by assumption)))) <;> first | omega | (simp; done) | (simp; omega))⟩
  have hdp : deep ≤ 100 := by omega
  have HR := Lib.hid ((rr_leaf deep h k (by omega) hdp).trans (head9 h k.len hk))
  have HP : Hid (∀ w', Below w.heap.size w w' → PathAt w' (fun _ => True) pa h.path) := Lib.hid (fun w' hb => hd.path.keep (fun b _ hlt => hb.block b hlt) (fun _ _ _ => trivial))
  have hts := ho.type
  have hf0 := ho.f0
  have hf9 := ho.f1
  have hfr := ho.frm
  have hpl : h.path.length ≤ 9223372036854775807 := by have := ho.path; omega
  clear hd
  have hplain := fun n f s r t hc w => rplain_any h k.len pa pc ia ic n f s r t hc w
  have HK := Lib.hid hk
  unfold Hd.cells at hplain ⊢
  simp only [hk] at hplain HR ⊢
  have HPL := Lib.hid hplain
  clear hk hplain
  go_enter Tryd.func58, Tryd.ntmps58
  go_wp2_with (first
        | (go_at_call 100; refine (rdecl_any _ hts _).mono ?_; rintro e w1 ⟨rfl, hb1⟩; obtain ⟨hc1, hf1⟩ := bcell hb1; have hz1 : w.heap.size < w1.heap.size := by (have hz := hb1.size; (try simp at hz); omega))
        | (go_at_call 97; refine (rtyped_any _ (by omega) (by omega) _ hts _).mono ?_; rintro e w1 ⟨rfl, hb1⟩; obtain ⟨hc1, hf1⟩ := bcell hb1; have hz1 : w.heap.size < w1.heap.size := by (have hz := hb1.size; (try simp at hz); omega))
        | (go_at_call 96; refine (HPL.out _ _ _ _ _ (by simp [oneOf]) _).mono ?_; rintro e w2 ⟨rfl, hb2⟩; obtain ⟨hc2, hf2⟩ := bcell hb2; have hz2 : w.heap.size < w2.heap.size := by (have hz := hb2.size; (try simp at hz); omega))
        | (go_at_call 64; refine (risNaN_any _ hf0 hf9 _).mono ?_; rintro e w3 ⟨rfl, rfl⟩)
        | (go_at_call 98; refine (rleads_any _ _ _ _ _ (by unfold kind4; omega) _ _ _ _ hpl hfr (by exact HP.out _ (by ((repeat' (first | exact Below.refl _ _ | assumption | (refine bl_alloc ?_ _) | (refine Below.drew ?_) | (refine below_drewN ?_ _) | (refine Below.setCell ?_ ?_ _) | (refine bl_trans ?_ (by assumption)))) <;> first | omega | (simp; done) | (simp; omega))))).mono ?_; rintro e w4 ⟨rfl, hb4⟩))
  all_goals
    go_ret
    refine ⟨ret_bool (HR.out.trans ?_).symm, by ((repeat' (first | exact Below.refl _ _ | assumption | (refine bl_alloc ?_ _) | (refine Below.drew ?_) | (refine below_drewN ?_ _) | (refine Below.setCell ?_ ?_ _) | (refine bl_trans ?_ (by assumption)))) <;> first | omega | (simp; done) | (simp; omega))⟩
    first | (simp [*]; done) | (simp [nanNo, *]; rw [Bool.eq_iff_iff]; simp [*]; done) | (simp [nanNo, *]; rw [Bool.eq_iff_iff]; grind) | (simp only [‹typedB _ _ = true›, ‹rplainB _ _ _ _ _ _ _ = true›, Bool.true_and]; rw [decide_eq_decide]; omega)

set_option maxRecDepth 100000 in
set_option maxHeartbeats 4000000 in
theorem rr_no (h : Hd) (k : Fo) (hk : h.kind < 0 ∨ 9 < h.kind) : RRC h k := by
  intro deep w S pa pc ia ic h1 h2 hd
  have HR : Hid (rrD deep h k = false) := Lib.hid (by unfold rrD; rw [head_no hk]; simp)
  unfold Hd.cells
  clear hd
  by_cases hdp : 100 < deep
  · clear hk
    go_enter Tryd.func58, Tryd.ntmps58
    go_wp2_with fail
    go_ret
    exact ⟨ret_bool HR.out.symm, by ((repeat' (first | exact Below.refl _ _ | assumption | (refine bl_alloc ?_ _) | (refine Below.drew ?_) | (refine below_drewN ?_ _) | (refine Below.setCell ?_ ?_ _) | (refine bl_trans ?_ (by assumption)))) <;> first | omega | (simp; done) | (simp; omega))⟩
  have hdp : deep ≤ 100 := by omega
  rcases hk with hk | hk
  all_goals
    go_enter Tryd.func58, Tryd.ntmps58
    go_wp2_with fail
    go_ret
    exact ⟨ret_bool HR.out.symm, by ((repeat' (first | exact Below.refl _ _ | assumption | (refine bl_alloc ?_ _) | (refine Below.drew ?_) | (refine below_drewN ?_ _) | (refine Below.setCell ?_ ?_ _) | (refine bl_trans ?_ (by assumption)))) <;> first | omega | (simp; done) | (simp; omega))⟩

set_option maxRecDepth 100000 in
set_option maxHeartbeats 4000000 in
theorem rr_8 (h : Hd) (k : Fo) (hk : h.kind = 8) (hf : FieldsC h k) : RRC h k := by
  intro deep w S pa pc ia ic h1 h2 hd
  by_cases hdp : 100 < deep
  · have HR : Hid (rrD deep h k = false) := Lib.hid (by unfold rrD; rw [decide_eq_false (by omega)]; rfl)
    unfold Hd.cells
    clear hk
    go_enter Tryd.func58, Tryd.ntmps58
    go_wp2_with fail
    go_ret
    exact ⟨ret_bool HR.out.symm, by ((repeat' (first | exact Below.refl _ _ | assumption | (refine bl_alloc ?_ _) | (refine Below.drew ?_) | (refine below_drewN ?_ _) | (refine Below.setCell ?_ ?_ _) | (refine bl_trans ?_ (by assumption)))) <;> first | omega | (simp; done) | (simp; omega))⟩
  have hdp : deep ≤ 100 := by omega
  have HR : Hid (rrD deep h k = ((declB h.type && (rplainB h k.len false false false false true && decide (k.len ≤ 30))) && rrF (deep + 1) k)) := Lib.hid (by unfold rrD; rw [decide_eq_true hdp, head8 h k.len hk, Bool.true_and])
  have hF := hf deep (w.alloc (.cells (h.cells pa pc ia k.len ic) 28)) S pa pc ia ic h1 hdp (hd.keep (fun b _ h => Below.heap_alloc _ _ _ h) (fun _ h _ => h))
  have HK := Lib.hid hk
  unfold Hd.cells at hF ⊢
  simp only [hk] at hF ⊢
  have HF := Lib.hid hF
  clear hk hF hd hf
  go_enter Tryd.func58, Tryd.ntmps58
  go_wp2_with fail
  refine HF.out.mono ?_
  rintro e w1 ⟨rfl, hb1⟩
  go_wp2_with fail
  go_ret
  exact ⟨ret_bool HR.out.symm, by ((repeat' (first | exact Below.refl _ _ | assumption | (refine bl_alloc ?_ _) | (refine Below.drew ?_) | (refine below_drewN ?_ _) | (refine Below.setCell ?_ ?_ _) | (refine bl_trans ?_ (by assumption)))) <;> first | omega | (simp; done) | (simp; omega))⟩
end Go.Proofs.YthdmmhiifkebeaaDoor
