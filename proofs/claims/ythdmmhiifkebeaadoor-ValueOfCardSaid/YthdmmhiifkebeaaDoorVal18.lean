/-
  Contract of the law's own known: the chapter's first examples hold. Written by an AI agent.
-/
import Derived.Test.YthdmmhiifkebeaaDoorVal17
namespace Go.Proofs.YthdmmhiifkebeaaDoor
open Go.RowKit Go.Sort Go.BigFrame

theorem figure_nil (a0 a1 a2 a3 a4 a5 a6 a7 a8 a9 a10 : Value) (w : World) : (nilAhead 326 115 (.agg #[a0, a1, a2, a3, a4, a5, a6, a7, a8, a9, a10]) "Rank").run Tryd.prog w = .ok (some false) w := by kernel_rfl
theorem figure_method_rank (a0 a1 a2 a3 a4 a5 a6 a7 a8 a9 a10 : Value) (w : World) : (method 326 115 (.agg #[a0, a1, a2, a3, a4, a5, a6, a7, a8, a9, a10]) "Rank").run Tryd.prog w = .ok (148, .agg #[a0, a1, a2, a3, a4, a5, a6, a7, a8, a9, a10]) w := by kernel_rfl
def listH : Hd := ⟨5, ⟨#[108, 105, 115, 116]⟩, 0, 0, emp, 0, 0, 0, 0, []⟩
def funcH : Hd := ⟨7, ⟨#[70]⟩, 0, 0, emp, 0, 0, 0, 0, []⟩
theorem listH_ok : listH.ok := by constructor <;> (simp [listH, emp, okInt, ByteArray.size])
theorem funcH_ok : funcH.ok := by constructor <;> (simp [funcH, emp, okInt, ByteArray.size])

theorem right_whole (n : Int) : rightB (wholeH n) .nil = true := by kernel_rfl
theorem right_list : rightB listH .nil = true := by decide
theorem right_func : rightB funcH .nil = true := by decide
theorem right_zero : rightB hd0 .nil = true := by decide
theorem ty_whole (n : Int) : tyO (wholeH n) .nil = some 115 := by kernel_rfl
theorem rank_57 : rankD (wholeH 5) (wholeH 7) .nil = (-1, true) := by decide
theorem equal_55 : equalD (wholeH 5) .nil (wholeH 5) .nil = (true, emp) := by decide
theorem equal_ll : equalD listH .nil listH .nil = (false, ⟨#[108, 105, 115, 116]⟩) := by decide
theorem key_func : keyB funcH .nil = false := by decide
theorem held_func : heldS funcH .nil = ⟨#[70]⟩ := by decide
theorem key_whole (n : Int) : keyB (wholeH n) .nil = true := by kernel_rfl
theorem same_55 : sameD (wholeH 5) .nil (wholeH 5) .nil = true := by decide
theorem same_56 : sameD (wholeH 5) .nil (wholeH 6) .nil = false := by decide
theorem name_whole (n : Int) : nameS (wholeH n) = ⟨#[105, 110, 116]⟩ := by kernel_rfl

set_option maxRecDepth 100000 in
set_option maxHeartbeats 1000000 in
theorem figureRank_any (h : Hd) (k : Fo) (h' : Hd) (k' : Fo) (ho' : h'.ok) (hk' : k'.ok) (w : World) (S T : Nat → Prop) (pa : Option Addr) (pc : Nat) (ia : Option Addr) (ic : Nat) (pa' : Option Addr) (pc' : Nat) (ia' : Option Addr) (ic' : Nat)
    (hd' : DatAt w T h' k' pa' pc' ia' ic') (hown : OwnAt w) :
    Calls Tryd.prog 148 #[.agg (h.cells pa pc ia k.len ic), .agg (h'.cells pa' pc' ia' k'.len ic')] w fun e w' => e = .returned (.tuple #[.int .i64 (rankD h h' k').1, .bool (rankD h h' k').2]) ∧ Below w.heap.size w w' := by
  have hb : Below w.heap.size w ((w.alloc (.cells (h.cells pa pc ia k.len ic) 115)).alloc (.cells (h'.cells pa' pc' ia' k'.len ic') 28)) := bl_alloc (bl_alloc (Below.refl _ _) _) _
  have hr := rank_any h k h' k' ho' hk' _ S T pa pc ia ic pa' pc' ia' ic' (hd'.below hb (fun b _ h => h)) (hown.below hb (Nat.le_refl _))
  unfold Hd.cells at hr ⊢
  have HR := Lib.hid hr
  clear hr hb
  go_enter Tryd.func148, Tryd.ntmps148
  go_wp2_with fail
  refine HR.out.mono ?_
  rintro e w1 ⟨rfl, hb1⟩
  go_wp2_with fail
  go_ret2
  exact ⟨rfl, by ((repeat' (first | exact Below.refl _ _ | assumption | (refine bl_alloc ?_ _) | (refine Below.drew ?_) | (refine below_drewN ?_ _) | (refine Below.setCell ?_ ?_ _) | (refine bl_trans ?_ (by assumption)))) <;> first | omega | (simp; done) | (simp; omega))⟩

set_option maxRecDepth 100000 in
set_option maxHeartbeats 4000000 in
theorem known_any (w : World) (hown : OwnAt w) : Calls Tryd.prog 15 #[] w fun e w' => e = .returned (.bool true) ∧ Below w.heap.size w w' := by
  go_enter Tryd.func15, Tryd.ntmps15
  go_upto_region 1 with fail
  go_cut [1, 2] (fun t1 t2 wx => ∃ qa qc ja jc, t1 = .iface 115 (.agg ((wholeH 5).cells qa qc ja 0 jc)) ∧ t2 = .nilIface ∧ DatAt wx (fun b => w.heap.size ≤ b) (wholeH 5) .nil qa qc ja jc ∧ Below w.heap.size w wx)
  case first =>
    go_wp2_with fail
    refine (whole_any 5 w).mono ?_
    rintro e w1 ⟨rfl, hb1⟩
    go_wp2_with fail
    refine (of_any (wholeH 5) .nil (wholeH_ok 5 ⟨by decide, by decide⟩) trivial (by simp [Fo.len]) w1 _ none 0 none 0 (plain_at w1 _ rfl) (hown.below hb1 (Nat.le_refl _))).mono ?_
    rintro e w2 ⟨hb2, he⟩
    rw [if_pos (right_whole 5)] at he
    obtain ⟨v, rfl, hv⟩ := he
    unfold ValAt at hv
    rw [ty_whole] at hv
    obtain ⟨qa, qc, ja, jc, rfl, hdv⟩ := hv
    go_wp2_with fail
    go_meet
    case rel => exact ⟨qa, qc, ja, jc, rfl, rfl, hdv.keep (fun _ _ _ => rfl) (fun _ h _ => Nat.le_trans hb1.size h), bl_trans hb1 hb2⟩
  case rest =>
  obtain ⟨qa, qc, ja, jc, rfl, rfl, hdv, hbw⟩ := hcut
  obtain ⟨w0, rfl⟩ : ∃ w0 : World, w0 = wc := ⟨_, rfl⟩
  go_upto_region 2 with fail
  go_cut [33] (fun t wx => t = .bool false ∧ Below w0.heap.size w0 wx)
  case first =>
    have hm := figure_type
    have ht := type_any (wholeH 5) .nil (wholeH_ok 5 ⟨by decide, by decide⟩) w0 qa qc ja jc
    rw [name_whole] at ht
    unfold Hd.cells at ht ⊢
    have HT := Lib.hid ht
    clear ht
    go_wp2_with fail
    refine HT.out.mono ?_
    rintro e w1 ⟨rfl, hb1⟩
    go_wp2_with fail
    go_meet
    case rel => exact ⟨rfl, hb1⟩
  case rest =>
  obtain ⟨rfl, hb1⟩ := hcut
  obtain ⟨w1, rfl⟩ : ∃ w1 : World, w1 = wc := ⟨_, rfl⟩
  have hbw1 := bl_trans hbw hb1
  have hd1 := hdv.below hb1 (fun _ _ h => h)
  clear hdv hbw hb1
  have ha := assert_ordered (t := 115) (Or.inr (Or.inl rfl))
  rw [show orderedT 115 = true by decide] at ha
  go_upto_region 7 with fail
  go_cut [5, 6] (fun t5 t6 wx => t5 = .int .i64 (-1) ∧ t6 = .bool true ∧ Below w1.heap.size w1 wx)
  case first =>
    have hw7 := fun d os => whole_any 7 (grow (redrawn w1 d) os)
    unfold Hd.cells at hw7 ⊢
    have H7 := Lib.hid hw7
    clear hw7
    have hnl := figure_nil
    have hrk := figure_method_rank
    have hRK := fun d os => figureRank_any (wholeH 5) .nil (wholeH 7) .nil (wholeH_ok 7 ⟨by decide, by decide⟩) trivial (grow (redrawn w1 d) os) (fun _ => False) (fun _ => False) qa qc ja jc none 0 none 0 (plain_at _ _ rfl) ((hown.below hbw1 (Nat.le_refl _)).rg d os)
    rw [rank_57] at hRK
    unfold Hd.cells at hRK
    have HRK := Lib.hid hRK
    clear hRK
    refine wp_region_below (by kernel_rfl) (by kernel_rfl) ?_
    repeat (go_big_quiet_step (first | (exact Calls.regrown_of (H7.out _ _)) | (exact Calls.regrown_of (HRK.out _ _))))
    refine wpQuiet_nil ?_
    intro w2 hb2
    go_wp2_with fail
    go_meet
    case rel => exact ⟨rfl, rfl, hb2⟩
  case rest =>
  obtain ⟨rfl, rfl, hb2⟩ := hcut
  obtain ⟨w2, rfl⟩ : ∃ w2 : World, w2 = wc := ⟨_, rfl⟩
  have hbw2 := bl_trans hbw1 hb2
  clear hd1 ha hb2 hbw1
  go_upto_region 8 with fail
  go_cut [7, 8] (fun t7 t8 wx => t7 = .bool true ∧ t8 = .nilIface ∧ Below w2.heap.size w2 wx)
  case first =>
    go_wp2_with fail
    refine (whole_any 5 w2).mono ?_
    rintro e w3 ⟨rfl, hb3⟩
    go_wp2_with fail
    refine (whole_any 5 w3).mono ?_
    rintro e w4 ⟨rfl, hb4⟩
    go_wp2_with fail
    have hb24 := bl_trans hb3 hb4
    refine (Equal_any (wholeH 5) .nil (wholeH 5) .nil (wholeH_ok 5 ⟨by decide, by decide⟩) trivial (wholeH_ok 5 ⟨by decide, by decide⟩) trivial w4 _ _ none 0 none 0 none 0 none 0 (plain_at w4 _ rfl) (plain_at w4 _ rfl) (hown.below (bl_trans hbw2 hb24) (Nat.le_refl _))).mono ?_
    rintro e w5 ⟨hb5, b, v, rfl, he⟩
    rw [if_pos (by rw [right_whole]; rfl), equal_55, if_pos rfl, if_pos rfl] at he
    obtain ⟨rfl, rfl⟩ := he
    go_wp2_with fail
    go_meet
    case rel => exact ⟨rfl, rfl, bl_trans hb24 hb5⟩
  case rest =>
  obtain ⟨rfl, rfl, hb3⟩ := hcut
  obtain ⟨w3, rfl⟩ : ∃ w3 : World, w3 = wc := ⟨_, rfl⟩
  have hbw3 := bl_trans hbw2 hb3
  clear hb3 hbw2
  go_upto_region 9 with fail
  go_cut [9, 10] (fun _ t10 wx => FaultAt w wx t10 cmpW ⟨#[108, 105, 115, 116]⟩ ∧ Below w3.heap.size w3 wx)
  case first =>
    have hE := Equal_any listH .nil listH .nil listH_ok trivial listH_ok trivial w3 _ _ none 0 none 0 none 0 none 0 (plain_at w3 _ rfl) (plain_at w3 _ rfl) (hown.below hbw3 (Nat.le_refl _))
    unfold Hd.cells listH at hE
    simp only [List.length_nil, Fo.len] at hE
    have HE := Lib.hid hE
    clear hE
    go_wp2_with fail
    refine HE.out.mono ?_
    rintro e w5 ⟨hb5, b, v, rfl, he⟩
    have he2 : if (rightB listH .nil && rightB listH .nil) = true then b = (if (equalD listH .nil listH .nil).2 = emp then (equalD listH .nil listH .nil).1 else false) ∧ (if (equalD listH .nil listH .nil).2 = emp then v = .nilIface else FaultAt w3 w5 v cmpW (equalD listH .nil listH .nil).2) else b = false ∧ WrongAt w3 w5 v := he
    rw [if_pos (by rw [right_list]; rfl), equal_ll, if_neg (by decide), if_neg (by decide)] at he2
    obtain ⟨rfl, he2⟩ := he2
    clear he
    go_wp2_with fail
    go_meet
    case rel => exact ⟨he2.from hbw3.size, hb5⟩
  case rest =>
  obtain ⟨hf1, hb3⟩ := hcut
  obtain ⟨w4, rfl⟩ : ∃ w4 : World, w4 = wc := ⟨_, rfl⟩
  have hbw4 := bl_trans hbw3 hb3
  clear hb3 hbw3
  go_upto_region 10 with fail
  go_cut [11] (fun t11 wx => FaultAt w wx t11 keyW ⟨#[70]⟩ ∧ Below w4.heap.size w4 wx)
  case first =>
    have hE := key_any funcH .nil funcH_ok trivial (by simp [Fo.len]) w4 _ none 0 none 0 (plain_at w4 _ rfl) (hown.below hbw4 (Nat.le_refl _))
    unfold Hd.cells funcH at hE
    simp only [List.length_nil, Fo.len] at hE
    have HE := Lib.hid hE
    clear hE
    go_wp2_with fail
    refine HE.out.mono ?_
    rintro e w5 ⟨hb5, v, rfl, he⟩
    have he2 : KeyV funcH .nil w4 w5 v := he
    clear he
    unfold KeyV at he2
    rw [if_pos right_func, if_neg (by rw [key_func]; simp), held_func] at he2
    go_wp2_with fail
    go_meet
    case rel => exact ⟨he2.from hbw4.size, hb5⟩
  case rest =>
  obtain ⟨hf2, hbn⟩ := hcut
  obtain ⟨w5, rfl⟩ : ∃ w5 : World, w5 = wc := ⟨_, rfl⟩
  have hbw5 := bl_trans hbw4 hbn
  have hf1 := hf1.keep hbn
  clear hbn hbw4
  go_upto_region 11 with fail
  go_cut [12, 13] (fun ta tb wx => ta = .int .u64 (hashV (wholeH 5) .nil) ∧ tb = .nilIface ∧ Below w5.heap.size w5 wx)
  case first =>
    go_wp2_with fail
    refine (whole_any 5 w5).mono ?_
    rintro e wa ⟨rfl, hba⟩
    go_wp2_with fail
    refine (Hash_any (wholeH 5) .nil (wholeH_ok 5 ⟨by decide, by decide⟩) trivial (by simp [Fo.len]) wa _ none 0 none 0 (plain_at wa _ rfl) (hown.below (bl_trans hbw5 hba) (Nat.le_refl _))).mono ?_
    rintro e wb ⟨hbb, n, v, rfl, he, hn⟩
    unfold KeyV at he
    rw [if_pos (right_whole 5), if_pos (key_whole 5)] at he
    rw [right_whole, key_whole, if_pos (by rfl)] at hn
    subst he hn
    go_wp2_with fail
    go_meet
    case rel => exact ⟨rfl, rfl, bl_trans hba hbb⟩
  case rest =>
  obtain ⟨rfl, rfl, hbn⟩ := hcut
  obtain ⟨w6, rfl⟩ : ∃ w6 : World, w6 = wc := ⟨_, rfl⟩
  have hbw6 := bl_trans hbw5 hbn
  have hf1 := hf1.keep hbn
  have hf2 := hf2.keep hbn
  clear hbn
  go_upto_region 12 with fail
  go_cut [14, 15] (fun ta tb wx => ta = .int .u64 (hashV (wholeH 5) .nil) ∧ tb = .nilIface ∧ Below w6.heap.size w6 wx)
  case first =>
    go_wp2_with fail
    refine (whole_any 5 w6).mono ?_
    rintro e wa ⟨rfl, hba⟩
    go_wp2_with fail
    refine (Hash_any (wholeH 5) .nil (wholeH_ok 5 ⟨by decide, by decide⟩) trivial (by simp [Fo.len]) wa _ none 0 none 0 (plain_at wa _ rfl) (hown.below (bl_trans hbw6 hba) (Nat.le_refl _))).mono ?_
    rintro e wb ⟨hbb, n, v, rfl, he, hn⟩
    unfold KeyV at he
    rw [if_pos (right_whole 5), if_pos (key_whole 5)] at he
    rw [right_whole, key_whole, if_pos (by rfl)] at hn
    subst he hn
    go_wp2_with fail
    go_meet
    case rel => exact ⟨rfl, rfl, bl_trans hba hbb⟩
  case rest =>
  obtain ⟨rfl, rfl, hbn⟩ := hcut
  obtain ⟨w7, rfl⟩ : ∃ w7 : World, w7 = wc := ⟨_, rfl⟩
  have hbw7 := bl_trans hbw6 hbn
  have hf1 := hf1.keep hbn
  have hf2 := hf2.keep hbn
  clear hbn
  go_upto_region 13 with fail
  go_cut [16] (fun ta wx => ta = .bool true ∧ Below w7.heap.size w7 wx)
  case first =>
    have hT := lawTold_any w w7 _ (.fault cmpW ⟨#[108, 105, 115, 116]⟩) cmpW ⟨#[108, 105, 115, 116]⟩ hf1
    rw [show Er.told cmpW ⟨#[108, 105, 115, 116]⟩ (.fault cmpW ⟨#[108, 105, 115, 116]⟩) = true by decide] at hT
    unfold cmpW at hT
    have HT := Lib.hid hT
    clear hT
    go_wp2_with fail
    refine HT.out.mono ?_
    rintro e wa ⟨rfl, hba⟩
    go_wp2_with fail
    go_meet
    case rel => exact ⟨rfl, hba⟩
  case rest =>
  obtain ⟨rfl, hbn⟩ := hcut
  obtain ⟨w8, rfl⟩ : ∃ w8 : World, w8 = wc := ⟨_, rfl⟩
  have hbw8 := bl_trans hbw7 hbn
  have hf2 := hf2.keep hbn
  clear hbn
  go_upto_region 14 with fail
  go_cut [17] (fun ta wx => ta = .bool true ∧ Below w8.heap.size w8 wx)
  case first =>
    have hT := lawTold_any w w8 _ (.fault keyW ⟨#[70]⟩) keyW ⟨#[70]⟩ hf2
    rw [show Er.told keyW ⟨#[70]⟩ (.fault keyW ⟨#[70]⟩) = true by decide] at hT
    unfold keyW at hT
    have HT := Lib.hid hT
    clear hT
    go_wp2_with fail
    refine HT.out.mono ?_
    rintro e wa ⟨rfl, hba⟩
    go_wp2_with fail
    go_meet
    case rel => exact ⟨rfl, hba⟩
  case rest =>
  obtain ⟨rfl, hbn⟩ := hcut
  obtain ⟨w9, rfl⟩ : ∃ w9 : World, w9 = wc := ⟨_, rfl⟩
  have hbw9 := bl_trans hbw8 hbn
  clear hbn
  clear hf1 hf2
  go_upto_region 15 with fail
  have hR := Right_any hd0 .nil hd0_ok trivial w9 _ none 0 none 0 (hd0_at w9) (hown.below hbw9 (Nat.le_refl _))
  rw [right_zero] at hR
  unfold Hd.cells hd0 emp at hR
  simp only [List.length_nil, Fo.len] at hR
  have HR := Lib.hid hR
  clear hR
  go_wp2_with fail
  refine HR.out.mono ?_
  rintro e wa ⟨rfl, hba⟩
  go_wp2_with fail
  refine (whole_any 5 wa).mono ?_
  rintro e wb ⟨rfl, hbb⟩
  go_wp2_with fail
  refine (whole_any 5 wb).mono ?_
  rintro e wd ⟨rfl, hbd⟩
  go_wp2_with fail
  refine (same_any (wholeH 5) .nil (wholeH 5) .nil (wholeH_ok 5 ⟨by decide, by decide⟩) trivial (by simp [Fo.len]) (wholeH_ok 5 ⟨by decide, by decide⟩) trivial (by simp [Fo.len]) wd _ _ none 0 none 0 none 0 none 0 (plain_at wd _ rfl) (plain_at wd _ rfl)).mono ?_
  rintro e we ⟨rfl, hbe⟩
  rw [same_55]
  go_wp2_with fail
  refine (whole_any 5 we).mono ?_
  rintro e wf ⟨rfl, hbf⟩
  go_wp2_with fail
  refine (whole_any 6 wf).mono ?_
  rintro e wg ⟨rfl, hbg⟩
  go_wp2_with fail
  refine (same_any (wholeH 5) .nil (wholeH 6) .nil (wholeH_ok 5 ⟨by decide, by decide⟩) trivial (by simp [Fo.len]) (wholeH_ok 6 ⟨by decide, by decide⟩) trivial (by simp [Fo.len]) wg _ _ none 0 none 0 none 0 none 0 (plain_at wg _ rfl) (plain_at wg _ rfl)).mono ?_
  rintro e wh ⟨rfl, hbh⟩
  rw [same_56]
  go_wp2_with fail
  go_ret
  exact ⟨rfl, bl_trans hbw9 (bl_trans hba (bl_trans hbb (bl_trans hbd (bl_trans hbe (bl_trans hbf (bl_trans hbg hbh))))))⟩
end Go.Proofs.YthdmmhiifkebeaaDoor
