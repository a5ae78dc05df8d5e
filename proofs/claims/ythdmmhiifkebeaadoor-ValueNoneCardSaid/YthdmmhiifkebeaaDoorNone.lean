/-
  The law ValueNone walked: a list, map, func or pointer that leads to none is a value, which is not nil, and says so; it returns true. Written by an AI agent.
-/
import Derived.Test.YthdmmhiifkebeaaDoorVal18
namespace Go.Proofs.YthdmmhiifkebeaaDoor
open Go.RowKit Go.Sort

def PickPost (w : World) (e : Ending) (w' : World) : Prop := ∃ i : Nat, i < 4 ∧ e = .returned (.int .i64 i) ∧ w = w'
set_option maxHeartbeats 400000 in
theorem pick4_any (c : Int) (hc : okInt c) (w : World) : Calls Tryd.prog 36 #[.int .i64 c, .int .i64 4] w (PickPost w) := by
  obtain ⟨h0, h1⟩ := hc
  by_cases hn : c < 0
  · have e1 : IntKind.i64.wrap (-(c + 1)) = -(c + 1) := IntWalk.i64_in _ (by omega)
    have E2 : Hid ((c + 1).tmod 4 = -((-(c + 1)) % 4)) := Lib.hid (by
      have h := Int.neg_tmod (-(c + 1)) 4
      rw [Int.neg_neg] at h
      rw [h, Int.tmod_eq_emod_of_nonneg (by omega)])
    go_enter Tryd.func36, Tryd.ntmps36
    go_wp2_with fail
    go_ret
    exact ⟨((-(c + 1)) % 4).toNat, by omega, ret_int (by rw [E2.out]; omega), rfl⟩
  · go_enter Tryd.func36, Tryd.ntmps36
    go_wp2_with fail
    go_ret
    exact ⟨(c % 4).toNat, by omega, ret_int (by omega), rfl⟩

def hN (kd : Int) (name : ByteArray) : Hd := ⟨kd, name, 0, 0, emp, 0, 0, 0, 0, []⟩
def kind4N (kd : Int) : Prop := kd = 5 ∨ kd = 6 ∨ kd = 7 ∨ kd = 9
theorem hN_ok {kd : Int} (hk : kind4N kd) {name : ByteArray} (hs : name.size ≤ 140737488351232) : (hN kd name).ok := by
  unfold kind4N at hk
  have z : okInt 0 := ⟨by decide, by decide⟩
  exact ⟨⟨by show _ ≤ kd; omega, by show kd ≤ _; omega⟩, z, Int.le_refl 0, by show (0 : Int) ≤ _; decide, z, z, z, z, hs, by show ByteArray.size ⟨#[]⟩ ≤ _; decide, by show 0 ≤ _; omega, fun j x h => by (have h' : ([] : List Int)[j]? = some x := h; simp at h')⟩
def tyN (kd : Int) : TypeId := if kd = 5 then 117 else if kd = 9 then 119 else 118
theorem tyO_N {kd : Int} (hk : kind4N kd) (name : ByteArray) : tyO (hN kd name) .nil = some (tyN kd) := by
  rcases hk with rfl | rfl | rfl | rfl <;> simp [tyO, hN, tyN]
theorem assert_pointing {t : TypeId} (ht : t = 117 ∨ t = 118 ∨ t = 119) (v : Value) (w : World) : (Instr.typeAssert (.iface t v) 32 68 true).run Tryd.prog w = .ok (.tuple #[.iface t v, .bool true]) w := by
  rcases ht with rfl | rfl | rfl <;> exact run_typeAssert_hasB Tryd.underlying68 (by kernel_rfl) v _ w
theorem hN_box {w : World} {g : Nat} {kd : Int} {name : ByteArray} (b : Blk w g 28 ((hN kd name).cells none 0 none 0 0)) :
    w.cell? ⟨g, 0, none⟩ = some (.int .i64 kd) ∧ w.cell? ⟨g, 1, none⟩ = some (.string name) ∧ w.cell? ⟨g, 2, none⟩ = some (.int .i64 0) ∧
    w.cell? ⟨g, 3, none⟩ = some (.int .u64 0) ∧ w.cell? ⟨g, 4, none⟩ = some (.string ⟨#[]⟩) ∧ w.cell? ⟨g, 5, none⟩ = some (.int .i64 0) ∧
    w.cell? ⟨g, 6, none⟩ = some (.int .i64 0) ∧ w.cell? ⟨g, 7, none⟩ = some (.int .i64 0) ∧ w.cell? ⟨g, 8, none⟩ = some (.int .i64 0) ∧
    w.cell? ⟨g, 9, none⟩ = some (.slice none 0 0) ∧ w.cell? ⟨g, 10, none⟩ = some (.slice none 0 0) := (CellsAt.of_blk b).box
/-- A value or none, with its error. -/
def OfN (kd : Int) (name : ByteArray) (t8 t9 : Value) : Prop :=
  (rightB (hN kd name) .nil = true ∧ t9 = .nilIface ∧ ∃ qa qc ja jc, t8 = .iface (tyN kd) (.agg ((hN kd name).cells qa qc ja 0 jc))) ∨ (rightB (hN kd name) .nil = false ∧ t8 = .nilIface ∧ ∃ g, t9 = .iface 129 (.pointer (some ⟨g, 0, none⟩)))
theorem of_post {kd : Int} (hk : kind4N kd) {name : ByteArray} {w w' : World} {e : Ending} (hp : OfPost (hN kd name) .nil w e w') : ∃ t8 t9, e = .returned (.tuple #[t8, t9]) ∧ OfN kd name t8 t9 ∧ Below w.heap.size w w' := by
  obtain ⟨hb, he⟩ := hp
  by_cases hr : rightB (hN kd name) .nil = true
  · rw [if_pos hr] at he
    obtain ⟨v, rfl, hv⟩ := he
    unfold ValAt at hv
    rw [tyO_N hk] at hv
    obtain ⟨qa, qc, ja, jc, rfl, _⟩ := hv
    exact ⟨_, _, rfl, .inl ⟨hr, rfl, qa, qc, ja, jc, rfl⟩, hb⟩
  · rw [if_neg hr] at he
    obtain ⟨v, rfl, g, rfl, _⟩ := he
    exact ⟨_, _, rfl, .inr ⟨by revert hr; cases rightB (hN kd name) .nil <;> simp, rfl, g, rfl⟩, hb⟩
theorem of_zero {w w' : World} {e : Ending} (hp : OfPost hd0 .nil w e w') : e = .returned (.tuple #[.nilIface, .nilIface]) ∧ Below w.heap.size w w' := by
  obtain ⟨hb, he⟩ := hp
  rw [if_pos right_zero] at he
  obtain ⟨v, rfl, hv⟩ := he
  have hv' : v = .nilIface := hv
  exact ⟨by rw [hv'], hb⟩
theorem equal_zero {kd : Int} (hk : kind4N kd) (name : ByteArray) : equalD (hN kd name) .nil hd0 .nil = (false, emp) := by
  unfold equalD
  rw [if_pos]
  unfold oneB kind4N at *
  rw [decide_eq_false]
  intro h
  have : kd = 0 := h.1
  omega

set_option maxRecDepth 100000 in
set_option maxHeartbeats 4000000 in
theorem valueNone_any (kind : Int) (hkd : okInt kind) (name : ByteArray) (hs : name.size ≤ 140737488351232) (w : World) (hown : OwnAt w) :
    Calls Tryd.prog 10 #[.int .i64 kind, .string name] w fun e w' => e = .returned (.bool true) ∧ Below w.heap.size w w' := by
  go_enter Tryd.func10, Tryd.ntmps10
  go_upto_region 1 with fail
  go_cut [5] (fun t wx => t = .bool true ∧ Below w.heap.size w wx)
  case first =>
    go_wp2_with fail
    refine (known_any _ hown).mono ?_
    rintro e w1 ⟨rfl, hb1⟩
    go_wp2_with fail
    go_meet
    case rel => exact ⟨rfl, hb1⟩
  case rest =>
  obtain ⟨rfl, hbw0⟩ := hcut
  obtain ⟨w0, rfl⟩ : ∃ w0 : World, w0 = wc := ⟨_, rfl⟩
  go_upto_region 2 with fail
  go_cut [6] (fun t wx => ∃ (g : Nat) (kd : Int), t = .pointer (some ⟨g, 0, none⟩) ∧ kind4N kd ∧ Blk wx g 28 ((hN kd name).cells none 0 none 0 0) ∧ w.heap.size ≤ g ∧ Below w0.heap.size w0 wx)
  case first =>
    have hsz := hbw0.size
    go_wp2_with fail
    refine (pick4_any _ hkd _).mono ?_
    rintro e w1 ⟨i, hi, rfl, rfl⟩
    have hi4 : i = 0 ∨ i = 1 ∨ i = 2 ∨ i = 3 := by omega
    rcases hi4 with rfl | rfl | rfl | rfl
    all_goals
      go_wp2_with fail
      go_meet
    case rel => exact ⟨_, 5, rfl, .inl rfl, Blk.new1 _ _ _ _, by omega, by ((repeat' (first | exact Below.refl _ _ | assumption | (refine bl_alloc ?_ _) | (refine Below.drew ?_) | (refine below_drewN ?_ _) | (refine Below.setCell ?_ ?_ _) | (refine bl_trans ?_ (by assumption)))) <;> first | omega | (simp; done) | (simp; omega))⟩
    case rel => exact ⟨_, 6, rfl, .inr (.inl rfl), Blk.new1 _ _ _ _, by omega, by ((repeat' (first | exact Below.refl _ _ | assumption | (refine bl_alloc ?_ _) | (refine Below.drew ?_) | (refine below_drewN ?_ _) | (refine Below.setCell ?_ ?_ _) | (refine bl_trans ?_ (by assumption)))) <;> first | omega | (simp; done) | (simp; omega))⟩
    case rel => exact ⟨_, 7, rfl, .inr (.inr (.inl rfl)), Blk.new1 _ _ _ _, by omega, by ((repeat' (first | exact Below.refl _ _ | assumption | (refine bl_alloc ?_ _) | (refine Below.drew ?_) | (refine below_drewN ?_ _) | (refine Below.setCell ?_ ?_ _) | (refine bl_trans ?_ (by assumption)))) <;> first | omega | (simp; done) | (simp; omega))⟩
    case rel => exact ⟨_, 9, rfl, .inr (.inr (.inr rfl)), Blk.new1 _ _ _ _, by omega, by ((repeat' (first | exact Below.refl _ _ | assumption | (refine bl_alloc ?_ _) | (refine Below.drew ?_) | (refine below_drewN ?_ _) | (refine Below.setCell ?_ ?_ _) | (refine bl_trans ?_ (by assumption)))) <;> first | omega | (simp; done) | (simp; omega))⟩
  case rest =>
  obtain ⟨g, kd, rfl, hk, hG, hgw, hb0⟩ := hcut
  obtain ⟨w1, rfl⟩ : ∃ w1 : World, w1 = wc := ⟨_, rfl⟩
  have hbw1 := bl_trans hbw0 hb0
  have hok := hN_ok hk hs
  clear hb0 hbw0 hkd
  have HRT : Hid (∀ w', Below w.heap.size w w' → Calls Tryd.prog 16 #[.agg ((hN kd name).cells none 0 none 0 0)] w' fun e w'' => e = .returned (.bool (rightB (hN kd name) .nil)) ∧ Below w'.heap.size w' w'') := fun w' hb => Right_any (hN kd name) .nil hok trivial w' _ none 0 none 0 (plain_at w' _ rfl) (hown.below hb (Nat.le_refl _))
  have HOF : Hid (∀ w', Below w.heap.size w w' → Calls Tryd.prog 18 #[.agg ((hN kd name).cells none 0 none 0 0)] w' (OfPost (hN kd name) .nil w')) := fun w' hb => of_any (hN kd name) .nil hok trivial (by simp [Fo.len]) w' _ none 0 none 0 (plain_at w' _ rfl) (hown.below hb (Nat.le_refl _))
  have HOZ : Hid (∀ w', Below w.heap.size w w' → Calls Tryd.prog 18 #[.agg (hd0.cells none 0 none 0 0)] w' (OfPost hd0 .nil w')) := fun w' hb => of_any hd0 .nil hd0_ok trivial (by simp [Fo.len]) w' _ none 0 none 0 (hd0_at w') (hown.below hb (Nat.le_refl _))
  have HEQ : Hid (∀ w', Below w.heap.size w w' → Calls Tryd.prog 21 #[.agg ((hN kd name).cells none 0 none 0 0), .agg (hd0.cells none 0 none 0 0)] w' (EqualPost (hN kd name) .nil hd0 .nil w')) := fun w' hb => Equal_any (hN kd name) .nil hd0 .nil hok trivial hd0_ok trivial w' _ _ none 0 none 0 none 0 none 0 (plain_at w' _ rfl) (hd0_at w') (hown.below hb (Nat.le_refl _))
  unfold Hd.cells at HRT HOF HOZ HEQ
  unfold hN emp at HRT HOF HEQ
  unfold hd0 at HOZ HEQ
  unfold emp at HOZ HEQ
  simp only [List.length_nil] at HRT HOF HOZ HEQ
  have HOK := Lib.hid hok
  have HK := Lib.hid hk
  clear hok hk hown
  obtain ⟨c0, c1, c2, c3, c4, c5, c6, c7, c8, c9, c10⟩ := hN_box hG
  obtain ⟨rt, hrt⟩ : ∃ b, rightB (hN kd name) .nil = b := ⟨_, rfl⟩
  have HRB := Lib.hid hrt
  have hrt' : rightB ⟨kd, name, 0, 0, ⟨#[]⟩, 0, 0, 0, 0, []⟩ .nil = rt := hrt
  rw [hrt'] at HRT
  clear hrt hrt'
  go_upto_region 3 with fail
  go_cut [7] (fun t wx => t = .bool rt ∧ Below w1.heap.size w1 wx)
  case first =>
    go_wp2_with fail
    refine (HRT.out _ hbw1).mono ?_
    rintro e w2 ⟨rfl, hb2⟩
    go_wp2_with fail
    go_meet
    case rel => exact ⟨rfl, hb2⟩
  case rest =>
  obtain ⟨rfl, hb0⟩ := hcut
  obtain ⟨w2, rfl⟩ : ∃ w2 : World, w2 = wc := ⟨_, rfl⟩
  have hG2 := hG.below hb0 hG.lt
  have hbw2 := bl_trans hbw1 hb0
  clear c0 c1 c2 c3 c4 c5 c6 c7 c8 c9 c10 hG hbw1 hb0 HRT
  obtain ⟨c0, c1, c2, c3, c4, c5, c6, c7, c8, c9, c10⟩ := hN_box hG2
  go_upto_region 4 with fail
  go_cut [8, 9] (fun t8 t9 wx => OfN kd name t8 t9 ∧ Below w2.heap.size w2 wx)
  case first =>
    go_wp2_with fail
    refine (HOF.out _ hbw2).mono ?_
    intro e w3 hp
    obtain ⟨t8, t9, rfl, hof, hb3⟩ := of_post HK.out hp
    have HOFN := Lib.hid hof
    clear hof hp
    go_wp2_with fail
    go_meet
    case rel => exact ⟨HOFN.out, hb3⟩
  case rest =>
  obtain ⟨hofn, hb0⟩ := hcut
  obtain ⟨w3, rfl⟩ : ∃ w3 : World, w3 = wc := ⟨_, rfl⟩
  have hG3 := hG2.below hb0 hG2.lt
  have hbw3 := bl_trans hbw2 hb0
  have HOFN := Lib.hid hofn
  clear c0 c1 c2 c3 c4 c5 c6 c7 c8 c9 c10 hG2 hbw2 hb0 HOF hofn
  go_upto_region 5 with fail
  go_cut [10, 11] (fun t8 t9 wx => t8 = .nilIface ∧ t9 = .nilIface ∧ Below w3.heap.size w3 wx)
  case first =>
    go_wp2_with fail
    refine (HOZ.out _ hbw3).mono ?_
    intro e w4 hp
    obtain ⟨rfl, hb4⟩ := of_zero hp
    clear hp
    go_wp2_with fail
    go_meet
    case rel => exact ⟨rfl, rfl, hb4⟩
  case rest =>
  obtain ⟨rfl, rfl, hb0⟩ := hcut
  obtain ⟨w4, rfl⟩ : ∃ w4 : World, w4 = wc := ⟨_, rfl⟩
  have hG4 := hG3.below hb0 hG3.lt
  have hbw4 := bl_trans hbw3 hb0
  clear hG3 hbw3 hb0 HOZ
  rcases HOFN.out with ⟨hr, rfl, qa, qc, ja, jc, rfl⟩ | ⟨hr, rfl, gw, rfl⟩
  · have hrt : rt = true := by rw [← HRB.out]; exact hr
    subst hrt
    have HR := Lib.hid hr
    clear hr HOFN HRB
    have hk4 : kd = 5 ∨ kd = 6 ∨ kd = 7 ∨ kd = 9 := HK.out
    go_upto_region 10 with fail
    go_cut [12, 13] (fun t12 t13 wx => t12 = .iface (tyN kd) (.agg ((hN kd name).cells qa qc ja 0 jc)) ∧ t13 = .bool true ∧ w4 = wx)
    case first =>
      have hty : tyN kd = 117 ∨ tyN kd = 118 ∨ tyN kd = 119 := by unfold tyN; split <;> (try split) <;> simp
      have ha := assert_pointing hty
      clear hk4 hty
      go_wp2_with fail
      go_meet
      case rel => exact ⟨rfl, rfl, rfl⟩
    case rest =>
    obtain ⟨rfl, rfl, rfl⟩ := hcut
    obtain ⟨c0, c1, c2, c3, c4, c5, c6, c7, c8, c9, c10⟩ := hN_box hG4
    go_upto_region 11 with fail
    go_cut [14] (fun t wx => t = .string name ∧ w4 = wx)
    case first =>
      go_wp2_with fail
      go_meet
      case rel => exact ⟨rfl, rfl⟩
    case rest =>
    obtain ⟨rfl, rfl⟩ := hcut
    go_upto_region 12 with fail
    go_cut [69] (fun t wx => t = .bool (kd == 9) ∧ w4 = wx)
    case first =>
      go_wp2_with fail
      go_meet
      case rel => exact ⟨rfl, rfl⟩
    case rest =>
    obtain ⟨rfl, rfl⟩ := hcut
    go_upto_if 69 with fail
    go_cut [14] (fun t wx => t = .string (nameS (hN kd name)) ∧ w4 = wx)
    case first =>
      cases h9 : kd == 9
      · have HN : Hid (nameS (hN kd name) = name) := Lib.hid (by
          have : kd ≠ 9 := by simpa using h9
          unfold nameS; rw [if_neg (show ¬ (hN kd name).kind = 0 from by show ¬ kd = 0; omega), if_neg (show ¬ (hN kd name).kind = 9 from this)]; rfl)
        clear hk4
        go_wp2_with fail
        go_meet
        case rel => exact ⟨by rw [HN.out], rfl⟩
      · have HN : Hid (nameS (hN kd name) = ⟨#[42]⟩ ++ name) := Lib.hid (by
          have : kd = 9 := by simpa using h9
          unfold nameS; rw [if_neg (show ¬ (hN kd name).kind = 0 from by show ¬ kd = 0; omega), if_pos (show (hN kd name).kind = 9 from this)]; rfl)
        clear hk4
        go_wp2_with fail
        go_meet
        case rel => exact ⟨by rw [HN.out], rfl⟩
    case rest =>
    obtain ⟨rfl, rfl⟩ := hcut
    go_upto_region 14 with fail
    go_cut [15, 16] (fun t15 t16 wx => t15 = .bool false ∧ t16 = .nilIface ∧ Below w4.heap.size w4 wx)
    case first =>
      go_wp2_with fail
      refine (HEQ.out _ hbw4).mono ?_
      intro e w5 hp
      have hp2 : EqualPost (hN kd name) .nil hd0 .nil w4 e w5 := hp
      clear hp
      obtain ⟨hb5, b, v, rfl, he⟩ := hp2
      rw [HR.out, right_zero, if_pos (show (true && true) = true from rfl), equal_zero HK.out name, if_pos rfl, if_pos rfl] at he
      obtain ⟨rfl, rfl⟩ := he
      go_wp2_with fail
      go_meet
      case rel => exact ⟨rfl, rfl, hb5⟩
    case rest =>
    obtain ⟨rfl, rfl, hb0⟩ := hcut
    obtain ⟨w5, rfl⟩ : ∃ w5 : World, w5 = wc := ⟨_, rfl⟩
    have hbw5 := bl_trans hbw4 hb0
    clear c0 c1 c2 c3 c4 c5 c6 c7 c8 c9 c10 hG4 hbw4 hb0 HEQ
    have HTY : Hid (∀ w', Calls Tryd.prog 144 #[.agg ((hN kd name).cells qa qc ja 0 jc)] w' fun e w'' => e = .returned (.string (nameS (hN kd name))) ∧ Below w'.heap.size w' w'') := fun w' => type_any (hN kd name) .nil HOK.out w' qa qc ja jc
    have HN1 : Hid (∀ w', Calls Tryd.prog 158 #[.agg ((hN kd name).cells qa qc ja 0 jc)] w' fun e w'' => e = .returned (.bool true) ∧ Below w'.heap.size w' w'') := fun w' => rowNone_any (hN kd name) 0 w' qa qc ja jc
    have HN2 : Hid (∀ w', Calls Tryd.prog 159 #[.agg ((hN kd name).cells qa qc ja 0 jc)] w' fun e w'' => e = .returned (.bool true) ∧ Below w'.heap.size w' w'') := fun w' => leadNone_any (hN kd name) 0 w' qa qc ja jc
    have HN3 : Hid (∀ w', Calls Tryd.prog 161 #[.agg ((hN kd name).cells qa qc ja 0 jc)] w' fun e w'' => e = .returned (.bool true) ∧ Below w'.heap.size w' w'') := fun w' => arrowNone_any (hN kd name) 0 w' qa qc ja jc
    obtain ⟨nm, hnm⟩ : ∃ s, nameS (hN kd name) = s := ⟨_, rfl⟩
    rw [hnm] at HTY ⊢
    clear hnm
    have hty : tyN kd = 117 ∨ tyN kd = 118 ∨ tyN kd = 119 := by unfold tyN; split <;> (try split) <;> simp
    obtain ⟨ty, hte⟩ : ∃ t, tyN kd = t := ⟨_, rfl⟩
    rw [hte] at hty ⊢
    clear hte hk4
    unfold hN Hd.cells emp at HTY HN1 HN2 HN3 ⊢
    simp only [List.length_nil] at HTY HN1 HN2 HN3 ⊢
    have hbq : (nm.toList == nm.toList) = true := by simp
    rcases hty with rfl | rfl | rfl
    · have h1 := row_none
      have h2 := row_type
      go_wp2_with fail
      refine (HN1.out _).mono ?_
      rintro e w6 ⟨rfl, hb6⟩
      go_wp2_with fail
      refine (HTY.out _).mono ?_
      rintro e w7 ⟨rfl, hb7⟩
      go_wp2_with fail
      refine (HTY.out _).mono ?_
      rintro e w8 ⟨rfl, hb8⟩
      go_wp2_with fail
      go_ret
      exact ⟨rfl, bl_trans hbw5 (bl_trans hb6 (bl_trans hb7 hb8))⟩
    · have h1 := lead_none
      have h2 := lead_type
      go_wp2_with fail
      refine (HN2.out _).mono ?_
      rintro e w6 ⟨rfl, hb6⟩
      go_wp2_with fail
      refine (HTY.out _).mono ?_
      rintro e w7 ⟨rfl, hb7⟩
      go_wp2_with fail
      refine (HTY.out _).mono ?_
      rintro e w8 ⟨rfl, hb8⟩
      go_wp2_with fail
      go_ret
      exact ⟨rfl, bl_trans hbw5 (bl_trans hb6 (bl_trans hb7 hb8))⟩
    · have h1 := arrow_none
      have h2 := arrow_type
      go_wp2_with fail
      refine (HN3.out _).mono ?_
      rintro e w6 ⟨rfl, hb6⟩
      go_wp2_with fail
      refine (HTY.out _).mono ?_
      rintro e w7 ⟨rfl, hb7⟩
      go_wp2_with fail
      refine (HTY.out _).mono ?_
      rintro e w8 ⟨rfl, hb8⟩
      go_wp2_with fail
      go_ret
      exact ⟨rfl, bl_trans hbw5 (bl_trans hb6 (bl_trans hb7 hb8))⟩
  · have hrt : rt = false := by rw [← HRB.out]; exact hr
    subst hrt
    clear hr HOFN HRB HEQ
    go_wp2_with fail
    go_ret
    exact ⟨rfl, hbw4⟩
end Go.Proofs.YthdmmhiifkebeaaDoor
