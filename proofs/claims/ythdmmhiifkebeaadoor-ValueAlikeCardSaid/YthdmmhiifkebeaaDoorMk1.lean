/-
  Contracts of the laws' own pick, (*Maker).next and (*Maker).raw. Written by an AI agent.
-/
import Derived.Test.YthdmmhiifkebeaaDoorVal5
import Derived.Test.YthdmmhiifkebeaaDoorQ
import Derived.IntWalk
import Derived.BigRegion
import Derived.BigQuiet
namespace Go.Proofs.YthdmmhiifkebeaaDoor
open Go.RowKit Go.Sort

def pickV (c n : Int) : Int := (if c < 0 then -(c + 1) else c) % n
theorem pickV_range (c n : Int) (hn : 1 ≤ n) : 0 ≤ pickV c n ∧ pickV c n < n := ⟨Int.emod_nonneg _ (by omega), Int.emod_lt_of_pos _ (by omega)⟩
theorem ret_i64 {a b : Int} (h : a = b) : Ending.returned (.int .i64 a) = .returned (.int .i64 b) := by rw [h]
set_option maxHeartbeats 400000 in
theorem pick_any (c n : Int) (hc : okInt c) (hn : 1 ≤ n) (hn2 : n ≤ 1000) (w : World) : Calls Tryd.prog 36 #[.int .i64 c, .int .i64 n] w fun e w' => e = .returned (.int .i64 (pickV c n)) ∧ w = w' := by
  obtain ⟨h1, h2⟩ := hc
  by_cases h : c < 0
  · go_enter Tryd.func36, Tryd.ntmps36
    go_wp2_with fail
    go_ret
    exact ⟨ret_i64 (by unfold pickV; rw [if_pos h, ← Int.neg_tmod, Int.tmod_eq_emod_of_nonneg (by omega)]), rfl⟩
  · have h0 : 0 ≤ c := by omega
    go_enter Tryd.func36, Tryd.ntmps36
    go_wp2_with fail
    go_ret
    exact ⟨ret_i64 (by unfold pickV; rw [if_neg (by omega)]), rfl⟩
theorem pick_below (c n : Int) (hc : okInt c) (hn : 1 ≤ n) (hn2 : n ≤ 1000) (w : World) : Calls Tryd.prog 36 #[.int .i64 c, .int .i64 n] w fun e w' => e = .returned (.int .i64 (pickV c n)) ∧ Below w.heap.size w w' :=
  (pick_any c n hc hn hn2 w).mono fun _ _ ⟨h1, h2⟩ => ⟨h1, h2 ▸ Below.refl _ _⟩

/-- A Maker at block g: its numbers lie below B; so many have been read. -/
def Mk (w : World) (g B : Nat) (a : Int) : Prop := ∃ (ra : Option Addr) (l : List Int) (rc : Nat), Blk w g 60 #[.slice ra l.length rc, .int .i64 a] ∧ PathAt w (fun b => b < B) ra l ∧ (∀ (j : Nat) (x : Int), l[j]? = some x → okInt x) ∧
  l.length ≤ 17592186043904 ∧ 0 ≤ a ∧ B ≤ g
theorem Mk.below {w w' : World} {g B : Nat} {a : Int} (h : Mk w g B a) (hb : Below w.heap.size w w') : Mk w' g B a := by
  obtain ⟨ra, l, rc, h1, h2, h3, h4, h5, h6⟩ := h
  exact ⟨ra, l, rc, h1.below hb h1.lt, h2.keep (fun b _ hlt => hb.block b hlt) (fun _ h _ => h), h3, h4, h5, h6⟩
theorem Mk.lt {w : World} {g B : Nat} {a : Int} (h : Mk w g B a) : g < w.heap.size := by
  obtain ⟨_, _, _, h1, _⟩ := h
  exact h1.lt
theorem Mk.far {w : World} {g B : Nat} {a : Int} (h : Mk w g B a) {p : Addr} (hp : g < p.block) (u : Value) : Mk (w.setCell p u) g B a := by
  obtain ⟨ra, l, rc, h1, h2, h3, h4, h5, h6⟩ := h
  exact ⟨ra, l, rc, h1.far (by omega) u, h2.keep (fun b hb _ => Below.heap_setCell _ _ _ _ (by have : b < B := hb; omega)) (fun _ h _ => h), h3, h4, h5, h6⟩
theorem grown_set {w w2 : World} (hb : Below w.heap.size w w2) (g o : Nat) (v : Value) : w.grownBy (w2.setCell ⟨g, o, none⟩ v) (some g) :=
  ⟨hb.os, hb.tape, hb.output, by simpa [World.setCell] using hb.size, fun k hk hne => (Below.heap_setCell _ _ _ _ (fun e => hne (by rw [e]))).trans (hb.block k hk)⟩
theorem Mk.next {w w2 : World} {g B : Nat} {a : Int} {ra : Option Addr} {l : List Int} {rc : Nat} (hb : Below w.heap.size w w2) (h1 : Blk w g 60 #[.slice ra l.length rc, .int .i64 a]) (h2 : PathAt w (fun b => b < B) ra l) (h3 : ∀ (j : Nat) (x : Int), l[j]? = some x → okInt x)
    (h4 : l.length ≤ 17592186043904) (h5 : 0 ≤ a) (h6 : B ≤ g) : Mk (w2.setCell ⟨g, 1, none⟩ (.int .i64 (a + 1))) g B (a + 1) :=
  ⟨ra, l, rc, by simpa using (h1.below hb h1.lt).set_ 1 (.int .i64 (a + 1)), h2.keep (fun b hB hlt => (Below.heap_setCell _ _ _ _ (by have : b < B := hB; show b ≠ g; omega)).trans (hb.block b hlt)) (fun _ h _ => h), h3, h4, by omega, h6⟩

def NextPost (n : Int) (g B : Nat) (a : Int) (w : World) (e : Ending) (w' : World) : Prop := ∃ c : Int, 0 ≤ c ∧ c < n ∧ e = .returned (.int .i64 c) ∧ Mk w' g B (a + 1) ∧ w.grownBy w' (some g)
def RawPost (g B : Nat) (a : Int) (w : World) (e : Ending) (w' : World) : Prop := ∃ c : Int, okInt c ∧ e = .returned (.int .i64 c) ∧ Mk w' g B (a + 1) ∧ w.grownBy w' (some g)

set_option maxRecDepth 100000 in
set_option maxHeartbeats 800000 in
theorem next_any (n : Int) (hn : 1 ≤ n) (hn2 : n ≤ 1000) (g B : Nat) (a : Int) (ha : a ≤ 4611686018427387904) (w : World) (hm : Mk w g B a) :
    Calls Tryd.prog 71 #[.pointer (some ⟨g, 0, none⟩), .int .i64 n] w (NextPost n g B a w) := by
  obtain ⟨ra, l, rc, h1, h2, h3, h4, h5, h6⟩ := hm
  have g0 := cell_regrown (h1.cell 0)
  have g1 := cell_regrown (h1.cell 1)
  have HP := Lib.hid h2
  have H3 := Lib.hid h3
  clear h2 h3
  go_enter Tryd.func71, Tryd.ntmps71
  go_upto_region 2 with fail
  go_cut [15] (fun t wx => t = .bool (decide (a < (l.length : Int))) ∧ Below w.heap.size w wx)
  case first =>
    refine wp_region_below (by kernel_rfl) (by kernel_rfl) ?_
    repeat (go_big_quiet_step ((fail)))
    refine wpQuiet_nil ?_
    intro w1 hb1
    go_wp2_with fail
    go_meet
    case rel => exact ⟨rfl, hb1⟩
  case rest =>
  obtain ⟨rfl, hb1⟩ := hcut
  obtain ⟨w1, rfl⟩ : ∃ w1 : World, w1 = wc := ⟨_, rfl⟩
  have h11 := h1.below hb1 h1.lt
  clear g0 g1
  have g0 := cell_regrown (h11.cell 0)
  have g1 := cell_regrown (h11.cell 1)
  by_cases hlt : a < (l.length : Int)
  · obtain ⟨j, rfl⟩ : ∃ j : Nat, a = j := ⟨a.toNat, by omega⟩
    obtain ⟨x, hx⟩ : ∃ x, l[j]? = some x := ⟨_, List.getElem?_eq_getElem (by omega)⟩
    obtain ⟨b, o, rfl, _, hc⟩ := (HP.out.keep (w' := w1) (fun b _ hlt => hb1.block b hlt) (fun _ h _ => h)).get hx
    have hc := cell_regrown hc
    have hxr := H3.out j x hx
    have hp := fun W => pick_below x n hxr hn hn2 W
    have HPK := Lib.hid hp
    have hj0 : (0 : Int) ≤ (j : Int) := by omega
    have hdt : decide ((j : Int) < (l.length : Int)) = true := decide_eq_true hlt
    rw [hdt]
    clear hdt hp hx hxr
    go_upto_region 3 with fail
    go_cut [5] (fun t wx => t = .int .i64 (pickV x n) ∧ Below w1.heap.size w1 wx)
    case first =>
      refine wp_region_below (by kernel_rfl) (by kernel_rfl) ?_
      repeat (go_big_quiet_step ((exact Calls.regrown_of (HPK.out _))))
      refine wpQuiet_nil ?_
      intro w2 hb2
      go_wp2_with fail
      go_meet
      case rel => exact ⟨rfl, hb2⟩
    case rest =>
    obtain ⟨rfl, hb2⟩ := hcut
    obtain ⟨w2, rfl⟩ : ∃ w2 : World, w2 = wc := ⟨_, rfl⟩
    have hb12 := bl_trans hb1 hb2
    have h12 := h1.below hb12 h1.lt
    clear g0 g1 hc HPK
    have g0 := h12.cell 0
    have g1 := h12.cell 1
    simp at g0 g1
    have hfr := fun j => h12.frozen j
    have hM := Mk.next hb12 h1 HP.out H3.out h4 (by omega) h6
    have hG := grown_set hb12 g 1 (.int .i64 ((j : Int) + 1))
    have hr := pickV_range x n hn
    clear h1 h11 h12 hb1 hb2 hb12
    go_wp2_with fail
    go_ret
    exact ⟨_, hr.1, hr.2, rfl, hM, hG⟩
  · have hdt : decide (a < (l.length : Int)) = false := decide_eq_false hlt
    rw [hdt]
    clear hdt g0 g1
    have g0 := h11.cell 0
    have g1 := h11.cell 1
    simp at g0 g1
    have hfr := fun j => h11.frozen j
    have hM := Mk.next hb1 h1 HP.out H3.out h4 (by omega) h6
    have hG := grown_set hb1 g 1 (.int .i64 (a + 1))
    clear h1 h11 hb1
    go_wp2_with fail
    go_ret
    exact ⟨0, by omega, by omega, rfl, hM, hG⟩

set_option maxRecDepth 100000 in
set_option maxHeartbeats 800000 in
theorem raw_any (g B : Nat) (a : Int) (ha : a ≤ 4611686018427387904) (w : World) (hm : Mk w g B a) :
    Calls Tryd.prog 73 #[.pointer (some ⟨g, 0, none⟩)] w (RawPost g B a w) := by
  obtain ⟨ra, l, rc, h1, h2, h3, h4, h5, h6⟩ := hm
  have g0 := cell_regrown (h1.cell 0)
  have g1 := cell_regrown (h1.cell 1)
  have HP := Lib.hid h2
  have H3 := Lib.hid h3
  clear h2 h3
  go_enter Tryd.func73, Tryd.ntmps73
  go_upto_region 2 with fail
  go_cut [13] (fun t wx => t = .bool (decide (a < (l.length : Int))) ∧ Below w.heap.size w wx)
  case first =>
    refine wp_region_below (by kernel_rfl) (by kernel_rfl) ?_
    repeat (go_big_quiet_step ((fail)))
    refine wpQuiet_nil ?_
    intro w1 hb1
    go_wp2_with fail
    go_meet
    case rel => exact ⟨rfl, hb1⟩
  case rest =>
  obtain ⟨rfl, hb1⟩ := hcut
  obtain ⟨w1, rfl⟩ : ∃ w1 : World, w1 = wc := ⟨_, rfl⟩
  have h11 := h1.below hb1 h1.lt
  clear g0 g1
  have g0 := cell_regrown (h11.cell 0)
  have g1 := cell_regrown (h11.cell 1)
  by_cases hlt : a < (l.length : Int)
  · obtain ⟨j, rfl⟩ : ∃ j : Nat, a = j := ⟨a.toNat, by omega⟩
    obtain ⟨x, hx⟩ : ∃ x, l[j]? = some x := ⟨_, List.getElem?_eq_getElem (by omega)⟩
    obtain ⟨b, o, rfl, _, hc⟩ := (HP.out.keep (w' := w1) (fun b _ hlt => hb1.block b hlt) (fun _ h _ => h)).get hx
    have hc := cell_regrown hc
    have HXR := Lib.hid (H3.out j x hx)
    have hj0 : (0 : Int) ≤ (j : Int) := by omega
    have hdt : decide ((j : Int) < (l.length : Int)) = true := decide_eq_true hlt
    rw [hdt]
    clear hdt hx
    go_upto_region 3 with fail
    go_cut [3] (fun t wx => t = .int .i64 x ∧ Below w1.heap.size w1 wx)
    case first =>
      refine wp_region_below (by kernel_rfl) (by kernel_rfl) ?_
      repeat (go_big_quiet_step ((fail)))
      refine wpQuiet_nil ?_
      intro w2 hb2
      go_wp2_with fail
      go_meet
      case rel => exact ⟨rfl, hb2⟩
    case rest =>
    obtain ⟨rfl, hb2⟩ := hcut
    obtain ⟨w2, rfl⟩ : ∃ w2 : World, w2 = wc := ⟨_, rfl⟩
    have hb12 := bl_trans hb1 hb2
    have h12 := h1.below hb12 h1.lt
    clear g0 g1 hc
    have g0 := h12.cell 0
    have g1 := h12.cell 1
    simp at g0 g1
    have hfr := fun j => h12.frozen j
    have hM := Mk.next hb12 h1 HP.out H3.out h4 (by omega) h6
    have hG := grown_set hb12 g 1 (.int .i64 ((j : Int) + 1))
    clear h1 h11 h12 hb1 hb2 hb12
    go_wp2_with fail
    go_ret
    exact ⟨_, HXR.out, rfl, hM, hG⟩
  · have hdt : decide (a < (l.length : Int)) = false := decide_eq_false hlt
    rw [hdt]
    clear hdt g0 g1
    have g0 := h11.cell 0
    have g1 := h11.cell 1
    simp at g0 g1
    have hfr := fun j => h11.frozen j
    have hM := Mk.next hb1 h1 HP.out H3.out h4 (by omega) h6
    have hG := grown_set hb1 g 1 (.int .i64 (a + 1))
    clear h1 h11 hb1
    go_wp2_with fail
    go_ret
    exact ⟨0, ⟨by omega, by omega⟩, rfl, hM, hG⟩
end Go.Proofs.YthdmmhiifkebeaaDoor
