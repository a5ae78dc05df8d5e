/-
  Contracts of the reference's typed and leads. Written by an AI agent.
-/
import Derived.Test.YthdmmhiifkebeaaDoorRef3
namespace Go.Proofs.YthdmmhiifkebeaaDoor
open Go.RowKit Go.Sort

def typedB (kind : Int) (s : ByteArray) : Bool := declB s || decide (s = ownOf kind)
set_option maxRecDepth 100000 in
set_option maxHeartbeats 2000000 in
theorem rtyped_any (kind : Int) (h1 : 1 ≤ kind) (h7 : kind ≤ 7) (s : ByteArray) (hs : s.size ≤ 140737488351232) (w : World) :
    Calls Tryd.prog 97 #[.int .i64 kind, .string s] w fun e w' => e = .returned (.bool (typedB kind s)) ∧ Below w.heap.size w w' := by
  have HT : Hid (∀ x, ownOf kind = x → typedB kind s = (declB s || (s.toList == x.toList))) := Lib.hid (fun x hx => by rw [typedB, hx, beq_str])
  obtain ⟨x, hx, hc⟩ : ∃ x, ownOf kind = x ∧ (w.alloc (.cells namesC 9)).cell? ⟨w.heap.size, kind.toNat - 1, none⟩ = some (.string x) := by
    refine ⟨_, rfl, ?_⟩
    rw [(Blk.new w _ _).cell]
    have : kind = 1 ∨ kind = 2 ∨ kind = 3 ∨ kind = 4 ∨ kind = 5 ∨ kind = 6 ∨ kind = 7 := by omega
    rcases this with rfl | rfl | rfl | rfl | rfl | rfl | rfl <;> rfl
  have HE := Lib.hid (HT.out x hx)
  have HC := Lib.hid hc
  clear HT hx hc
  go_enter Tryd.func97, Tryd.ntmps97
  go_wp2_with fail
  refine (rown_any _).mono ?_
  rintro e w1 ⟨rfl, rfl⟩
  go_wp2_with fail
  refine (rdecl_any s hs _).mono ?_
  rintro e w1 ⟨rfl, hb1⟩
  have hc1 := (hb1.cell (p := ⟨w.heap.size, kind.toNat - 1, none⟩) (by simp)).trans HC.out
  have hbw : Below w.heap.size w w1 := bl_trans (bl_alloc (Below.refl _ _) _) hb1
  clear HC hb1
  have HBW := Lib.hid hbw
  clear hbw
  cases hd : declB s
  · rw [hd] at HE
    go_wp2_with fail
    go_ret
    exact ⟨ret_bool HE.out.symm, HBW.out⟩
  · rw [hd] at HE
    go_wp2_with fail
    go_ret
    exact ⟨ret_bool HE.out.symm, HBW.out⟩

def kind4 (kind : Int) : Prop := kind = 5 ∨ kind = 6 ∨ kind = 7 ∨ kind = 9
theorem leads_zero {kind f l c : Int} {p : List Int} (hk : kind4 kind) : leadsB kind 0 f l c p = plainB 0 f l c p.length := by
  unfold kind4 at hk
  unfold leadsB plainB
  rw [if_neg (by omega)]
  by_cases h5 : kind = 5
  · rw [if_pos h5, Bool.eq_iff_iff]; simp
  · rw [if_neg h5, if_pos (by omega)]
    split
    · symm; rw [decide_eq_false_iff_not]; omega
    · have hp : p = [] := List.eq_nil_of_length_eq_zero (by omega)
      subst hp
      rw [decide_eq_true (by simp; omega)]; rfl
theorem leads_bad {kind o f l c : Int} {p : List Int} (hk : kind4 kind) (h : o < 0 ∨ 2147483647 < o ∨ (kind ≠ 9 ∧ 0 < p.length) ∨ 100 < p.length) : leadsB kind o f l c p = false := by
  unfold kind4 at hk
  unfold leadsB
  split
  · rfl
  · split
    · rw [decide_eq_false (by omega)]; rfl
    · rw [if_pos (by omega), if_pos (by omega)]
theorem leads_out {kind o f l c : Int} {p : List Int} (hk : kind4 kind) (h : anyOut p = true) : leadsB kind o f l c p = false := by
  unfold kind4 at hk
  have hp : 0 < p.length := by
    cases p with
    | nil => simp [anyOut] at h
    | cons => simp
  unfold leadsB
  split
  · rfl
  · split
    · rw [decide_eq_false (by omega)]; rfl
    · rw [if_pos (by omega), h]; simp
theorem leads_list {o f l c : Int} {p : List Int} (h0 : o ≠ 0) (h1 : 0 ≤ o) (h2 : o ≤ 2147483647) (hp : p.length = 0) : leadsB 5 o f l c p = decide (0 ≤ f ∧ 0 ≤ l ∧ l ≤ c ∧ f ≤ 1048576 ∧ c ≤ 1048576 - f) := by
  unfold leadsB plainB
  rw [if_neg (by omega), if_pos rfl, decide_eq_true hp, Bool.true_and, decide_eq_false (by omega), Bool.false_or, decide_eq_decide]
  omega
theorem leads_rest {kind o f l c : Int} {p : List Int} (hk : kind4 kind) (h5 : kind ≠ 5) (h0 : o ≠ 0) (h1 : 0 ≤ o) (h2 : o ≤ 2147483647) (hp : kind ≠ 9 → p.length = 0) (hl : p.length ≤ 100) (ha : anyOut p = false) : leadsB kind o f l c p = decide (f = 0 ∧ l = 0 ∧ c = 0) := by
  unfold kind4 at hk
  unfold leadsB
  rw [if_neg (by omega), if_neg h5, if_pos (by omega), ha]
  split
  · symm; rw [decide_eq_false_iff_not]; omega
  · symm; simp; omega

set_option maxRecDepth 100000 in
set_option maxHeartbeats 2000000 in
theorem rleads_any (kind o f l c : Int) (hk : kind4 kind) (p : List Int) (pa : Option Addr) (pc : Nat) (w : World) (hl : p.length ≤ 9223372036854775807) (hf : okInt f) (hp : PathAt w (fun _ => True) pa p) :
    Calls Tryd.prog 98 #[.int .i64 kind, .agg #[.int .i64 o, .int .i64 f, .int .i64 l, .int .i64 c, .slice pa p.length pc]] w
      fun e w' => e = .returned (.bool (leadsB kind o f l c p)) ∧ Below w.heap.size w w' := by
  by_cases ho : o = 0
  · subst ho
    have HL := Lib.hid (leads_zero (f := f) (l := l) (c := c) (p := p) hk)
    clear hk
    go_enter Tryd.func98, Tryd.ntmps98
    go_wp2_with (go_at_call 119; refine (rnone_any _ _ _ _ _ _ _ _).mono ?_; rintro e w1 ⟨rfl, hb1⟩)
    go_ret
    exact ⟨ret_bool HL.out.symm, by ((repeat' (first | exact Below.refl _ _ | assumption | (refine bl_alloc ?_ _) | (refine Below.drew ?_) | (refine below_drewN ?_ _) | (refine Below.setCell ?_ ?_ _) | (refine bl_trans ?_ (by assumption)))) <;> first | omega | (simp; done) | (simp; omega))⟩
  by_cases hbad : o < 0 ∨ 2147483647 < o ∨ (kind ≠ 9 ∧ 0 < p.length) ∨ 100 < p.length
  · have HL := Lib.hid (leads_bad (f := f) (l := l) (c := c) hk hbad)
    have HB := Lib.hid hbad
    clear hk hbad
    go_enter Tryd.func98, Tryd.ntmps98
    go_upto_block 0 with fail
    all_goals first
      | (exfalso; have := HB.out; omega)
      | (exfalso; have h9 := HB.out; have h8 := congrArg List.length ‹p = []›; simp only [List.length_nil] at h8; omega)
      | (go_ret; exact ⟨ret_bool HL.out.symm, by ((repeat' (first | exact Below.refl _ _ | assumption | (refine bl_alloc ?_ _) | (refine Below.drew ?_) | (refine below_drewN ?_ _) | (refine Below.setCell ?_ ?_ _) | (refine bl_trans ?_ (by assumption)))) <;> first | omega | (simp; done) | (simp; omega))⟩)
      | (go_wp2_with fail; go_ret; exact ⟨ret_bool HL.out.symm, by ((repeat' (first | exact Below.refl _ _ | assumption | (refine bl_alloc ?_ _) | (refine Below.drew ?_) | (refine below_drewN ?_ _) | (refine Below.setCell ?_ ?_ _) | (refine bl_trans ?_ (by assumption)))) <;> first | omega | (simp; done) | (simp; omega))⟩)
  have hb0 : 0 ≤ o := by omega
  have hb1 : o ≤ 2147483647 := by omega
  have hb2 : kind ≠ 9 → p.length = 0 := fun h => by omega
  have hb3 : (p.length : Int) ≤ 100 := by omega
  by_cases h9 : kind = 9
  · subst h9
    have hpw := hp.keep (w' := w.alloc (.cells #[.int .i64 o, .int .i64 f, .int .i64 l, .int .i64 c, .slice pa p.length pc] 25)) (fun b _ h => Below.heap_alloc _ _ _ h) (S' := fun _ => True) (fun _ _ _ => trivial)
    have HP := Lib.hid hpw
    have HO := Lib.hid (fun ha => leads_out (o := o) (f := f) (l := l) (c := c) (p := p) hk ha)
    have HL := Lib.hid (fun ha => leads_rest (f := f) (l := l) (c := c) (p := p) hk (by decide) ho hb0 hb1 hb2 (by omega) ha)
    clear hk hp hpw hb2 hbad hf
    go_enter Tryd.func98, Tryd.ntmps98
    go_wp2_with fail
    go_loopg [5] p.length (fun g i wr => ∃ k : Nat, k ≤ p.length ∧ i = .int .i64 k ∧ g = p.length - k ∧ (w.alloc (.cells #[.int .i64 o, .int .i64 f, .int .i64 l, .int .i64 c, .slice pa p.length pc] 25)) = wr ∧ ∀ j y, j < k → p[j]? = some y → outB y = false)
    case atStart => exact ⟨0, by omega, rfl, by omega, rfl, by omega⟩
    case round =>
    obtain ⟨k, hk, rfl, rfl, rfl, hn⟩ := hrel
    have HN := Lib.hid hn
    clear hn
    by_cases hlt : k < p.length
    · obtain ⟨x, hx⟩ : ∃ x, p[k]? = some x := ⟨_, List.getElem?_eq_getElem hlt⟩
      obtain ⟨b, o', rfl, _, hc⟩ := HP.out.get hx
      have HX := Lib.hid hx
      clear hx
      go_wp2
      all_goals first
        | (go_roundg (p.length - (k + 1))
           case measure => omega
           case rel =>
             refine ⟨k + 1, by omega, by go_num, rfl, rfl, fun j y hj hy => ?_⟩
             by_cases hjk : j = k
             · subst hjk
               rw [HX.out] at hy
               injection hy with hy
               subst hy
               exact decide_eq_false (by omega)
             · exact HN.out j y (by omega) hy)
        | (go_ret
           refine ⟨ret_bool (HO.out (List.any_eq_true.2 ⟨x, List.mem_of_getElem? HX.out, decide_eq_true (by omega)⟩)).symm, by ((repeat' (first | exact Below.refl _ _ | assumption | (refine bl_alloc ?_ _) | (refine Below.drew ?_) | (refine below_drewN ?_ _) | (refine Below.setCell ?_ ?_ _) | (refine bl_trans ?_ (by assumption)))) <;> first | omega | (simp; done) | (simp; omega))⟩)
    · have hkl : k = p.length := by omega
      subst hkl
      have ha : anyOut p = false := by
        rw [anyOut, List.any_eq_false]
        intro x hx
        obtain ⟨j, hj, e⟩ := List.mem_iff_getElem.1 hx
        rw [HN.out j x hj (by rw [List.getElem?_eq_getElem hj, e])]; simp
      have HF := Lib.hid (HL.out ha)
      clear ha
      go_wp2
      all_goals
        go_ret
        refine ⟨congrArg Ending.returned ?_, by ((repeat' (first | exact Below.refl _ _ | assumption | (refine bl_alloc ?_ _) | (refine Below.drew ?_) | (refine below_drewN ?_ _) | (refine Below.setCell ?_ ?_ _) | (refine bl_trans ?_ (by assumption)))) <;> first | omega | (simp; done) | (simp; omega))⟩
        rw [HF.out]
        first | rfl | (refine congrArg Value.bool (Bool.eq_iff_iff.2 ?_); simp; done) | (refine congrArg Value.bool (Bool.eq_iff_iff.2 ?_); simp; omega)
  · have hp0 : p = [] := List.eq_nil_of_length_eq_zero (hb2 h9)
    subst hp0
    by_cases h5 : kind = 5
    · subst h5
      have HL := Lib.hid (leads_list (f := f) (l := l) (c := c) (p := []) ho hb0 hb1 rfl)
      obtain ⟨hf0, hf1⟩ := hf
      clear hk hp hb2 hbad hb3
      go_enter Tryd.func98, Tryd.ntmps98
      go_wp2
      go_loopg [5] 0 (fun g i wr => i = .int .i64 0 ∧ (w.alloc (.cells #[.int .i64 o, .int .i64 f, .int .i64 l, .int .i64 c, .slice pa 0 pc] 25)) = wr)
      case atStart => exact ⟨rfl, rfl⟩
      case round =>
      obtain ⟨rfl, rfl⟩ := hrel
      go_wp2
      all_goals
        go_ret
        refine ⟨congrArg Ending.returned ?_, by ((repeat' (first | exact Below.refl _ _ | assumption | (refine bl_alloc ?_ _) | (refine Below.drew ?_) | (refine below_drewN ?_ _) | (refine Below.setCell ?_ ?_ _) | (refine bl_trans ?_ (by assumption)))) <;> first | omega | (simp; done) | (simp; omega))⟩
        rw [HL.out]
        first | rfl | (refine congrArg Value.bool (Bool.eq_iff_iff.2 ?_); simp; done) | (refine congrArg Value.bool (Bool.eq_iff_iff.2 ?_); simp; omega)
    · have HL := Lib.hid (leads_rest (f := f) (l := l) (c := c) (p := []) hk h5 ho hb0 hb1 (fun _ => rfl) (by simp) (by rfl))
      clear hk hp hb2 hbad hb3
      go_enter Tryd.func98, Tryd.ntmps98
      go_wp2
      go_loopg [5] 0 (fun g i wr => i = .int .i64 0 ∧ (w.alloc (.cells #[.int .i64 o, .int .i64 f, .int .i64 l, .int .i64 c, .slice pa 0 pc] 25)) = wr)
      case atStart => exact ⟨rfl, rfl⟩
      case round =>
      obtain ⟨rfl, rfl⟩ := hrel
      go_wp2
      all_goals
        go_ret
        refine ⟨congrArg Ending.returned ?_, by ((repeat' (first | exact Below.refl _ _ | assumption | (refine bl_alloc ?_ _) | (refine Below.drew ?_) | (refine below_drewN ?_ _) | (refine Below.setCell ?_ ?_ _) | (refine bl_trans ?_ (by assumption)))) <;> first | omega | (simp; done) | (simp; omega))⟩
        rw [HL.out]
        first | rfl | (refine congrArg Value.bool (Bool.eq_iff_iff.2 ?_); simp; done) | (refine congrArg Value.bool (Bool.eq_iff_iff.2 ?_); simp; omega)
end Go.Proofs.YthdmmhiifkebeaaDoor
