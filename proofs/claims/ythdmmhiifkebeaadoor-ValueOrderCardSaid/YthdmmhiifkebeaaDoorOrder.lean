/-
  The law ValueOrder walked: three data of one type that are Ordered: each two have a rank; below is handed on; 0 just of equal ones. It returns true. Written by an AI agent.
-/
import Derived.Test.YthdmmhiifkebeaaDoorOrLaw
import Derived.Test.YthdmmhiifkebeaaDoorB3
namespace Go.Proofs.YthdmmhiifkebeaaDoor
open Go.RowKit Go.Sort

def Row3 (w : World) (g : Nat) (xs : Nat → Hd) : Prop := ∀ i, i < 3 → CellsAt w g (i * 11) ((xs i).cells none 0 none 0 0)
theorem Row3.below {w w' : World} {g : Nat} {xs : Nat → Hd} (h : Row3 w g xs) (hb : Below w.heap.size w w') : Row3 w' g xs := fun i hi => (h i hi).below hb (cell_lt (h i hi 0 _ rfl))
def OrdRow (p : Int) (v : Value) (w : World) : Prop := ∃ (g : Nat) (xs : Nat → Hd), v = .slice (some ⟨g, 0, none⟩) 3 3 ∧ (∀ i, i < 3 → OrdH p (xs i)) ∧ Row3 w g xs
theorem row3_of {w : World} {g : Nat} {t : TypeId} {a b c : Hd} (hB : Blk w g t (a.cells none 0 none 0 0 ++ (b.cells none 0 none 0 0 ++ c.cells none 0 none 0 0))) : Row3 w g (fun i => if i = 0 then a else if i = 1 then b else c) := by
  have hs : ∀ h : Hd, (h.cells none 0 none 0 0).size = 11 := fun h => by simp [Hd.cells]
  have hj : ∀ (h : Hd) (j : Nat) (v : Value), (h.cells none 0 none 0 0)[j]? = some v → j < 11 := fun h j v e => by
    rcases Nat.lt_or_ge j 11 with h1 | h1
    · exact h1
    · rw [Array.getElem?_eq_none (by rw [hs]; exact h1)] at e; cases e
  intro i hi j v hv
  rw [hB.cell]
  have h3 : i = 0 ∨ i = 1 ∨ i = 2 := by omega
  rcases h3 with rfl | rfl | rfl
  · have hv : (a.cells none 0 none 0 0)[j]? = some v := hv
    have := hj a j v hv
    rw [Array.getElem?_append_left (by rw [hs]; omega), Nat.zero_mul, Nat.zero_add]
    exact hv
  · have hv : (b.cells none 0 none 0 0)[j]? = some v := hv
    have := hj b j v hv
    rw [Array.getElem?_append_right (by rw [hs]; omega), hs, Array.getElem?_append_left (by rw [hs]; omega), show 1 * 11 + j - 11 = j by omega]
    exact hv
  · have hv : (c.cells none 0 none 0 0)[j]? = some v := hv
    have := hj c j v hv
    rw [Array.getElem?_append_right (by rw [hs]; omega), hs, Array.getElem?_append_right (by rw [hs]; omega), hs, show 2 * 11 + j - 11 - 11 = j by omega]
    exact hv
theorem ord_row {p : Int} {a b c : Hd} (ha : OrdH p a) (hb : OrdH p b) (hc : OrdH p c) : ∀ i, i < 3 → OrdH p ((fun i => if i = 0 then a else if i = 1 then b else c) i) := by
  intro i hi
  have h3 : i = 0 ∨ i = 1 ∨ i = 2 := by omega
  rcases h3 with rfl | rfl | rfl
  · exact ha
  · exact hb
  · exact hc
theorem below_grown {w w1 w2 : World} {g : Nat} (hb : Below w.heap.size w w1) (hg : w1.grownBy w2 (some g)) (hle : w.heap.size ≤ g) : Below w.heap.size w w2 :=
  ⟨hg.os.trans hb.os, hg.tape.trans hb.tape, hg.output.trans hb.output, Nat.le_trans hb.size hg.size, fun k hk => (hg.block k (Nat.lt_of_lt_of_le hk hb.size) (by simp; omega)).trans (hb.block k hk)⟩
theorem equal_ord {p : Int} {x y : Hd} (hx : OrdH p x) (hy : OrdH p y) (w : World) (hown : OwnAt w) :
    Calls Tryd.prog 21 #[.agg (x.cells none 0 none 0 0), .agg (y.cells none 0 none 0 0)] w fun e w' => e = .returned (.tuple #[.bool (eqAns x .nil y .nil), .nilIface]) ∧ Below w.heap.size w w' := by
  obtain ⟨x1, x2, x3, x4⟩ := ordH_parts hx
  obtain ⟨y1, y2, y3, y4⟩ := ordH_parts hy
  have hd := plain_at w x x4
  have he := plain_at w y y4
  refine (Equal_any x .nil y .nil x1 trivial y1 trivial w _ _ none 0 none 0 none 0 none 0 hd he hown).mono fun e w' hp => ?_
  obtain ⟨v, e1, e2, e3⟩ := equal_post hp
  rw [ord_equal hx hy] at e2
  have e2 : v = .nilIface := e2
  subst e2
  exact ⟨e1, e3⟩
theorem rank_ord {p : Int} {x y : Hd} (hx : OrdH p x) (hy : OrdH p y) (w : World) (hown : OwnAt w) :
    Calls Tryd.prog 35 #[.agg (x.cells none 0 none 0 0), .agg (y.cells none 0 none 0 0)] w fun e w' => e = .returned (.int .i64 (rankV x y .nil)) ∧ Below w.heap.size w w' := by
  obtain ⟨x1, x2, x3, x4⟩ := ordH_parts hx
  obtain ⟨y1, y2, y3, y4⟩ := ordH_parts hy
  have hd := plain_at w x x4
  have he := plain_at w y y4
  exact lawRank_any x .nil y .nil x1 trivial (by simp [Fo.len]) y1 trivial (by simp [Fo.len]) w _ _ none 0 none 0 none 0 none 0 hd he hown x2 x3
theorem broken_ord {p : Int} {x : Hd} (hx : OrdH p x) (w : World) :
    Calls Tryd.prog 33 #[.agg (x.cells none 0 none 0 0)] w fun e w' => e = .returned (.bool (brD x .nil)) ∧ Below w.heap.size w w' := by
  obtain ⟨x1, x2, x3, x4⟩ := ordH_parts hx
  have hd := plain_at w x x4
  exact broken_any x .nil x1 trivial (by simp [Fo.len]) w _ none 0 none 0 hd

set_option maxRecDepth 100000 in
set_option maxHeartbeats 4000000 in
theorem valueOrder_any (c : Int) (hc : okInt c) (ra : Option Addr) (l : List Int) (rc : Nat) (hl : l.length ≤ 17592186043904) (he : ∀ (j : Nat) (x : Int), l[j]? = some x → okInt x) (w : World) (S : Nat → Prop) (hp : PathAt w S ra l) (hown : OwnAt w) :
    Calls Tryd.prog 9 #[.int .i64 c, .slice ra l.length rc] w fun e w' => e = .returned (.bool true) ∧ Below w.heap.size w w' := by
  have HP : Hid (PathAt w (fun b => b < w.heap.size) ra l) := hp.keep (fun _ _ _ => rfl) (fun _ _ h => h)
  have HE := Lib.hid he
  have HO := Lib.hid hown
  clear hp he hown
  go_enter Tryd.func9, Tryd.ntmps9
  go_upto_region 1 with fail
  go_cut [5] (fun t wx => t = .bool true ∧ Below w.heap.size w wx)
  case first =>
    go_wp2_with fail
    refine (known_any w HO.out).mono ?_
    rintro e w1 ⟨rfl, hb1⟩
    go_wp2_with fail
    go_meet
    case rel => exact ⟨rfl, hb1⟩
  case rest =>
  obtain ⟨rfl, hb1⟩ := hcut
  obtain ⟨w1, rfl⟩ : ∃ w1 : World, w1 = wc := ⟨_, rfl⟩
  go_upto_region 2 with fail
  go_cut [6] (fun t wx => t = .pointer (some ⟨w1.heap.size, 0, none⟩) ∧ Mk wx w1.heap.size w1.heap.size 0 ∧ Below w1.heap.size w1 wx)
  case first =>
    go_wp2_with fail
    go_meet
    case rel => exact ⟨rfl, ⟨ra, l, rc, Blk.new _ _ _, HP.out.keep (fun b hb _ => (Below.heap_alloc _ _ _ (Nat.lt_of_lt_of_le hb hb1.size)).trans (hb1.block b hb)) (fun b hb _ => Nat.lt_of_lt_of_le hb hb1.size), HE.out, hl, by omega, Nat.le_refl _⟩, by ((repeat' (first | exact Below.refl _ _ | assumption | (refine bl_alloc ?_ _) | (refine Below.drew ?_) | (refine below_drewN ?_ _) | (refine Below.setCell ?_ ?_ _) | (refine bl_trans ?_ (by assumption)))) <;> first | omega | (simp; done) | (simp; omega))⟩
  case rest =>
  obtain ⟨rfl, hm2, hb2⟩ := hcut
  obtain ⟨w2, rfl⟩ : ∃ w2 : World, w2 = wc := ⟨_, rfl⟩
  have hbw2 := bl_trans hb1 hb2
  have hs1 := hb1.size
  clear HP HE hl hb2
  go_upto_region 3 with fail
  go_cut [7] (fun t wx => OrdRow (pickV c 3) t wx ∧ Below w.heap.size w wx)
  case first =>
    as_aux_lemma =>
      go_wp2_with fail
      refine (ordered_any c hc w1.heap.size w1.heap.size 0 (by omega) w2 hm2).mono ?_
      rintro e w3 ⟨x, hx, rfl, ⟨a3, ha3, hb3, hm3⟩, hg3⟩
      go_wp2_with fail
      refine (ordered_any c hc w1.heap.size w1.heap.size a3 (by omega) w3 hm3).mono ?_
      rintro e w4 ⟨y, hy, rfl, ⟨a4, ha4, hb4, hm4⟩, hg4⟩
      go_wp2_with fail
      refine (ordered_any c hc w1.heap.size w1.heap.size a4 (by omega) w4 hm4).mono ?_
      rintro e w5 ⟨z, hz, rfl, ⟨a5, ha5, hb5, hm5⟩, hg5⟩
      have hbw5 := below_grown hbw2 (grown_trans (grown_trans hg3 hg4) hg5) hs1
      have HB := Lib.hid hbw5
      have HX := Lib.hid (ord_row hx hy hz)
      clear hbw5 hg3 hg4 hg5 hm3 hm4 hm5 hx hy hz
      go_wp2_with (refine wpList_build3 _ rfl (.tmp 26) (.tmp 29) (.tmp 32) rfl x y z none none none 0 0 0 none none none 0 0 0 0 0 0 rfl rfl rfl ?_)
      go_meet
      case rel =>
        refine ⟨⟨_, _, rfl, HX.out, row3_of (Blk.new _ _ _)⟩, bl_alloc HB.out _⟩
  case rest =>
  obtain ⟨⟨g, xs, rfl, hox, hrow⟩, hbw⟩ := hcut
  obtain ⟨w4, rfl⟩ : ∃ w4 : World, w4 = wc := ⟨_, rfl⟩
  have HX := Lib.hid hox
  have HROW := Lib.hid hrow
  have HBW := Lib.hid hbw
  clear hox hrow hbw hm2 hbw2 hb1
  have hOW : ∀ W, Below w4.heap.size w4 W → OwnAt W := fun W hW => HO.out.below (bl_trans HBW.out hW) (Nat.le_refl _)
  have HRK : Hid (∀ W i j, Below w4.heap.size w4 W → i < 3 → j < 3 → Calls Tryd.prog 35 #[.agg ((xs i).cells none 0 none 0 0), .agg ((xs j).cells none 0 none 0 0)] W fun e w' => e = .returned (.int .i64 (rankV (xs i) (xs j) .nil)) ∧ Below W.heap.size W w') := fun W i j hW hi hj => rank_ord (HX.out i hi) (HX.out j hj) W (hOW W hW)
  have HEQ : Hid (∀ W i j, Below w4.heap.size w4 W → i < 3 → j < 3 → Calls Tryd.prog 21 #[.agg ((xs i).cells none 0 none 0 0), .agg ((xs j).cells none 0 none 0 0)] W fun e w' => e = .returned (.tuple #[.bool (eqAns (xs i) .nil (xs j) .nil), .nilIface]) ∧ Below W.heap.size W w') := fun W i j hW hi hj => equal_ord (HX.out i hi) (HX.out j hj) W (hOW W hW)
  have HBR : Hid (∀ W i, i < 3 → Calls Tryd.prog 33 #[.agg ((xs i).cells none 0 none 0 0)] W fun e w' => e = .returned (.bool (brD (xs i) .nil)) ∧ Below W.heap.size W w') := fun W i hi => broken_ord (HX.out i hi) W
  unfold Hd.cells at HRK HEQ HBR
  clear hOW hs1 HO
  go_wp2_with fail
  go_loopg [8] 3 (fun gk t wr => ∃ i : Nat, i ≤ 3 ∧ t = .int .i64 i ∧ gk = 3 - i ∧ Below w4.heap.size w4 wr)
  case atStart => exact ⟨0, by omega, rfl, rfl, Below.refl _ _⟩
  case round =>
  obtain ⟨i, hi, rfl, rfl, hbi⟩ := hrel
  obtain ⟨wi, rfl⟩ : ∃ u : World, u = wr := ⟨_, rfl⟩
  by_cases hi3 : i < 3
  · have hii : (i : Int) < 3 := by omega
    go_wp2_with fail
    go_loopg [9] 3 (fun gk t wr => ∃ j : Nat, j ≤ 3 ∧ t = .int .i64 j ∧ gk = 3 - j ∧ Below w4.heap.size w4 wr)
    case atStart => exact ⟨0, by omega, rfl, rfl, hbi⟩
    case round =>
    obtain ⟨j, hj, rfl, rfl, hbj⟩ := hrel
    clear hbi
    by_cases hj3 : j < 3
    · have hjj : (j : Int) < 3 := by omega
      obtain ⟨u0, rfl⟩ : ∃ u0 : World, u0 = wr := ⟨_, rfl⟩
      have hu0 := hbj
      clear hbj
      obtain ⟨c0, c1, c2, c3, c4, c5, c6, c7, c8, c9, c10⟩ := ((HROW.out.below hu0) i hi3).rg
      obtain ⟨d0, d1, d2, d3, d4, d5, d6, d7, d8, d9, d10⟩ := ((HROW.out.below hu0) j hj3).rg
      go_upto_region 10 with fail
      go_cut [10] (fun s wx => s = .int .i64 (rankV (xs i) (xs j) .nil) ∧ Below u0.heap.size u0 wx)
      case first =>
        as_aux_lemma =>
          refine wp_region_below (by kernel_rfl) (by kernel_rfl) ?_
          repeat (go_big_quiet_step ((exact Calls.regrown_of (HRK.out _ i j (bl_trans hu0 (below_regrown _ _ _)) hi3 hj3))))
          refine wpQuiet_nil ?_
          intro wa hba
          go_wp2_with fail
          go_meet
          case rel => exact ⟨rfl, hba⟩
      case rest =>
      obtain ⟨rfl, hba⟩ := hcut
      obtain ⟨u1, rfl⟩ : ∃ u : World, u = wc := ⟨_, rfl⟩
      have hu1 := bl_trans hu0 hba
      clear hba hu0 c0 c1 c2 c3 c4 c5 c6 c7 c8 c9 c10 d0 d1 d2 d3 d4 d5 d6 d7 d8 d9 d10
      obtain ⟨c0, c1, c2, c3, c4, c5, c6, c7, c8, c9, c10⟩ := ((HROW.out.below hu1) j hj3).rg
      obtain ⟨d0, d1, d2, d3, d4, d5, d6, d7, d8, d9, d10⟩ := ((HROW.out.below hu1) i hi3).rg
      go_upto_region 11 with fail
      go_cut [11] (fun s wx => s = .int .i64 (rankV (xs j) (xs i) .nil) ∧ Below u1.heap.size u1 wx)
      case first =>
        as_aux_lemma =>
          refine wp_region_below (by kernel_rfl) (by kernel_rfl) ?_
          repeat (go_big_quiet_step ((exact Calls.regrown_of (HRK.out _ j i (bl_trans hu1 (below_regrown _ _ _)) hj3 hi3))))
          refine wpQuiet_nil ?_
          intro wa hba
          go_wp2_with fail
          go_meet
          case rel => exact ⟨rfl, hba⟩
      case rest =>
      obtain ⟨rfl, hba⟩ := hcut
      obtain ⟨u2, rfl⟩ : ∃ u : World, u = wc := ⟨_, rfl⟩
      have hu2 := bl_trans hu1 hba
      clear hba hu1 c0 c1 c2 c3 c4 c5 c6 c7 c8 c9 c10 d0 d1 d2 d3 d4 d5 d6 d7 d8 d9 d10
      obtain ⟨c0, c1, c2, c3, c4, c5, c6, c7, c8, c9, c10⟩ := ((HROW.out.below hu2) i hi3).eleven
      go_upto_region 12 with fail
      go_cut [12] (fun s wx => s = .bool (brD (xs i) .nil) ∧ Below u2.heap.size u2 wx)
      case first =>
        as_aux_lemma =>
          go_wp2_with fail
          refine (HBR.out _ i hi3).mono ?_
          rintro e wa ⟨rfl, hba⟩
          go_wp2_with fail
          go_meet
          case rel => exact ⟨rfl, hba⟩
      case rest =>
      obtain ⟨rfl, hba⟩ := hcut
      obtain ⟨u3, rfl⟩ : ∃ u : World, u = wc := ⟨_, rfl⟩
      have hu3 := bl_trans hu2 hba
      clear hba hu2 c0 c1 c2 c3 c4 c5 c6 c7 c8 c9 c10
      obtain ⟨c0, c1, c2, c3, c4, c5, c6, c7, c8, c9, c10⟩ := ((HROW.out.below hu3) j hj3).eleven
      go_upto_region 13 with fail
      go_cut [13] (fun s wx => s = .bool (brD (xs j) .nil) ∧ Below u3.heap.size u3 wx)
      case first =>
        as_aux_lemma =>
          go_wp2_with fail
          refine (HBR.out _ j hj3).mono ?_
          rintro e wa ⟨rfl, hba⟩
          go_wp2_with fail
          go_meet
          case rel => exact ⟨rfl, hba⟩
      case rest =>
      obtain ⟨rfl, hba⟩ := hcut
      obtain ⟨u4, rfl⟩ : ∃ u : World, u = wc := ⟨_, rfl⟩
      have hu4 := bl_trans hu3 hba
      clear hba hu3 c0 c1 c2 c3 c4 c5 c6 c7 c8 c9 c10
      obtain ⟨n, hn⟩ : ∃ n, rankV (xs i) (xs j) .nil = n := ⟨_, rfl⟩
      obtain ⟨m, hm⟩ : ∃ n, rankV (xs j) (xs i) .nil = n := ⟨_, rfl⟩
      obtain ⟨bi, hbi⟩ : ∃ n, brD (xs i) .nil = n := ⟨_, rfl⟩
      obtain ⟨bj, hbj⟩ : ∃ n, brD (xs j) .nil = n := ⟨_, rfl⟩
      rw [hn, hm, hbi, hbj]
      have HN := Lib.hid hn
      have HM := Lib.hid hm
      have HBI := Lib.hid hbi
      have HBJ := Lib.hid hbj
      clear hn hm hbi hbj
      by_cases hbr : bi = true ∨ bj = true
      · as_aux_lemma =>
          have hn9 : n = 9 := by rw [← HN.out]; exact ord_broken (HX.out i hi3) (HX.out j hj3) (by rw [HBI.out, HBJ.out]; exact hbr)
          have hm9 : m = 9 := by rw [← HM.out]; exact ord_broken (HX.out j hj3) (HX.out i hi3) (by rw [HBI.out, HBJ.out]; exact hbr.symm)
          subst hn9 hm9
          have hbr2 : bi = true ∨ (bi = false ∧ bj = true) := by revert hbr; cases bi <;> simp
          clear hbr
          rcases hbr2 with rfl | ⟨rfl, rfl⟩
          all_goals
            go_wp2_with fail
            go_roundg (3 - (j + 1))
            case measure => omega
            case rel => exact ⟨j + 1, by omega, by go_num, rfl, hu4⟩
      have hbi0 : bi = false := by revert hbr; cases bi <;> simp
      have hbj0 : bj = false := by revert hbr; cases bj <;> simp
      subst hbi0 hbj0
      clear hbr
      obtain ⟨r1, r2, r3, r4⟩ := ord_two_law (HX.out i hi3) (HX.out j hj3) HBI.out HBJ.out
      rw [HN.out] at r1 r2 r3 r4
      rw [HM.out] at r3
      have HR4 := Lib.hid r4
      subst r3
      clear r4
      obtain ⟨c0, c1, c2, c3, c4, c5, c6, c7, c8, c9, c10⟩ := ((HROW.out.below hu4) i hi3).rg
      obtain ⟨d0, d1, d2, d3, d4, d5, d6, d7, d8, d9, d10⟩ := ((HROW.out.below hu4) j hj3).rg
      go_upto_region 17 with fail
      go_cut [14, 15] (fun t s wx => t = .bool (eqAns (xs i) .nil (xs j) .nil) ∧ s = .nilIface ∧ Below u4.heap.size u4 wx)
      case first =>
        as_aux_lemma =>
          refine wp_region_below (by kernel_rfl) (by kernel_rfl) ?_
          repeat (go_big_quiet_step ((exact Calls.regrown_of (HEQ.out _ i j (bl_trans hu4 (below_regrown _ _ _)) hi3 hj3))))
          refine wpQuiet_nil ?_
          intro wa hba
          go_wp2_with fail
          go_meet
          case rel => exact ⟨rfl, rfl, hba⟩
      case rest =>
      obtain ⟨rfl, rfl, hba⟩ := hcut
      obtain ⟨u5, rfl⟩ : ∃ u : World, u = wc := ⟨_, rfl⟩
      have hu5 := bl_trans hu4 hba
      clear hba hu4 c0 c1 c2 c3 c4 c5 c6 c7 c8 c9 c10 d0 d1 d2 d3 d4 d5 d6 d7 d8 d9 d10
      rw [HR4.out]
      clear HR4
      have hn3 : n = -1 ∨ n = 0 ∨ n = 1 := by omega
      go_upto_region 18 with fail
      go_cut [113] (fun t wx => t = .bool false ∧ u5 = wx)
      case first =>
        as_aux_lemma =>
          rcases hn3 with rfl | rfl | rfl
          all_goals
            go_wp2_with fail
            go_meet
            exact ⟨by first | rfl | simp, rfl⟩
      case rest =>
      obtain ⟨rfl, rfl⟩ := hcut
      go_wp2_with fail
      go_loopg [16] 3 (fun gk s wr => ∃ t : Nat, t ≤ 3 ∧ s = .int .i64 t ∧ gk = 3 - t ∧ Below w4.heap.size w4 wr)
      case atStart => exact ⟨0, by omega, rfl, rfl, hu5⟩
      case round =>
      obtain ⟨t, ht, rfl, rfl, hbt⟩ := hrel
      clear hu5
      by_cases ht3 : t < 3
      · have htt : (t : Int) < 3 := by omega
        obtain ⟨u6, rfl⟩ : ∃ u6 : World, u6 = wr := ⟨_, rfl⟩
        have hu6 := hbt
        clear hbt
        obtain ⟨c0, c1, c2, c3, c4, c5, c6, c7, c8, c9, c10⟩ := ((HROW.out.below hu6) t ht3).eleven
        go_upto_region 23 with fail
        go_cut [17] (fun s wx => s = .bool (brD (xs t) .nil) ∧ Below u6.heap.size u6 wx)
        case first =>
          as_aux_lemma =>
            go_wp2_with fail
            refine (HBR.out _ t ht3).mono ?_
            rintro e wa ⟨rfl, hba⟩
            go_wp2_with fail
            go_meet
            case rel => exact ⟨rfl, hba⟩
        case rest =>
        obtain ⟨rfl, hba⟩ := hcut
        obtain ⟨u7, rfl⟩ : ∃ u : World, u = wc := ⟨_, rfl⟩
        have hu7 := bl_trans hu6 hba
        clear hba hu6 c0 c1 c2 c3 c4 c5 c6 c7 c8 c9 c10
        obtain ⟨c0, c1, c2, c3, c4, c5, c6, c7, c8, c9, c10⟩ := ((HROW.out.below hu7) j hj3).rg
        obtain ⟨d0, d1, d2, d3, d4, d5, d6, d7, d8, d9, d10⟩ := ((HROW.out.below hu7) t ht3).rg
        go_upto_region 24 with fail
        go_cut [18] (fun s wx => s = .int .i64 (rankV (xs j) (xs t) .nil) ∧ Below u7.heap.size u7 wx)
        case first =>
          as_aux_lemma =>
            refine wp_region_below (by kernel_rfl) (by kernel_rfl) ?_
            repeat (go_big_quiet_step ((exact Calls.regrown_of (HRK.out _ j t (bl_trans hu7 (below_regrown _ _ _)) hj3 ht3))))
            refine wpQuiet_nil ?_
            intro wa hba
            go_wp2_with fail
            go_meet
            case rel => exact ⟨rfl, hba⟩
        case rest =>
        obtain ⟨rfl, hba⟩ := hcut
        obtain ⟨u8, rfl⟩ : ∃ u : World, u = wc := ⟨_, rfl⟩
        have hu8 := bl_trans hu7 hba
        clear hba hu7 c0 c1 c2 c3 c4 c5 c6 c7 c8 c9 c10 d0 d1 d2 d3 d4 d5 d6 d7 d8 d9 d10
        obtain ⟨c0, c1, c2, c3, c4, c5, c6, c7, c8, c9, c10⟩ := ((HROW.out.below hu8) i hi3).rg
        obtain ⟨d0, d1, d2, d3, d4, d5, d6, d7, d8, d9, d10⟩ := ((HROW.out.below hu8) t ht3).rg
        go_upto_region 25 with fail
        go_cut [19] (fun s wx => s = .int .i64 (rankV (xs i) (xs t) .nil) ∧ Below u8.heap.size u8 wx)
        case first =>
          as_aux_lemma =>
            refine wp_region_below (by kernel_rfl) (by kernel_rfl) ?_
            repeat (go_big_quiet_step ((exact Calls.regrown_of (HRK.out _ i t (bl_trans hu8 (below_regrown _ _ _)) hi3 ht3))))
            refine wpQuiet_nil ?_
            intro wa hba
            go_wp2_with fail
            go_meet
            case rel => exact ⟨rfl, hba⟩
        case rest =>
        obtain ⟨rfl, hba⟩ := hcut
        obtain ⟨u9, rfl⟩ : ∃ u : World, u = wc := ⟨_, rfl⟩
        have hu9 := bl_trans hu8 hba
        clear hba hu8 c0 c1 c2 c3 c4 c5 c6 c7 c8 c9 c10 d0 d1 d2 d3 d4 d5 d6 d7 d8 d9 d10
        obtain ⟨o, ho⟩ : ∃ n, rankV (xs j) (xs t) .nil = n := ⟨_, rfl⟩
        obtain ⟨p, hp⟩ : ∃ n, rankV (xs i) (xs t) .nil = n := ⟨_, rfl⟩
        obtain ⟨bt, hbt⟩ : ∃ n, brD (xs t) .nil = n := ⟨_, rfl⟩
        rw [ho, hp, hbt]
        have hlaw : bt = false → (o = -1 ∨ o = 0 ∨ o = 1) ∧ (p = -1 ∨ p = 0 ∨ p = 1) ∧ (n ≤ 0 → o ≤ 0 → p ≤ 0 ∧ (n < 0 ∨ o < 0 → p < 0)) := fun e => by
          obtain ⟨q1, q2, _, _⟩ := ord_two_law (HX.out j hj3) (HX.out t ht3) HBJ.out (hbt.trans e)
          obtain ⟨q3, q4, _, _⟩ := ord_two_law (HX.out i hi3) (HX.out t ht3) HBI.out (hbt.trans e)
          rw [ho] at q1 q2
          rw [hp] at q3 q4
          refine ⟨by omega, by omega, fun h1 h2 => ?_⟩
          have := ord_three_law (HX.out i hi3) (HX.out j hj3) (HX.out t ht3) HBI.out HBJ.out (hbt.trans e) (by rw [HN.out]; exact h1) (by rw [ho]; exact h2)
          rw [HN.out, ho, hp] at this
          exact this
        have HL := Lib.hid hlaw
        clear ho hp hbt hlaw
        go_upto_region 26 with fail
        go_cut [166] (fun t wx => t = .bool false ∧ u9 = wx)
        case first =>
          as_aux_lemma =>
            cases bt
            · obtain ⟨ho3, hp3, hl3⟩ := HL.out rfl
              clear HL
              rcases hn3 with rfl | rfl | rfl <;> rcases ho3 with rfl | rfl | rfl <;> rcases hp3 with rfl | rfl | rfl
              all_goals first
                | (exfalso; omega)
                | (clear hl3; go_wp2_with fail; go_meet; exact ⟨by first | rfl | simp, rfl⟩)
            · clear HL
              go_wp2_with fail
              go_meet
              exact ⟨by first | rfl | simp, rfl⟩
        case rest =>
        obtain ⟨rfl, rfl⟩ := hcut
        clear HL
        go_wp2_with fail
        go_roundg (3 - (t + 1))
        case measure => omega
        case rel => exact ⟨t + 1, by omega, by go_num, rfl, hu9⟩
      · have htz : t = 3 := by omega
        subst htz
        go_wp2_with fail
        go_roundg (3 - (j + 1))
        case measure => omega
        case rel => exact ⟨j + 1, by omega, by go_num, rfl, hbt⟩
    · have hjz : j = 3 := by omega
      subst hjz
      go_wp2_with fail
      go_roundg (3 - (i + 1))
      case measure => omega
      case rel => exact ⟨i + 1, by omega, by go_num, rfl, hbj⟩
  · have hiz : i = 3 := by omega
    subst hiz
    go_wp2_with fail
    go_ret
    exact ⟨rfl, bl_trans HBW.out hbi⟩
end Go.Proofs.YthdmmhiifkebeaaDoor
