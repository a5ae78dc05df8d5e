/-
  Contract of the law's own broken: does a NaN stand in a datum? Written by an AI agent.
-/
import Derived.Test.YthdmmhiifkebeaaDoorRefN
import Derived.Test.YthdmmhiifkebeaaDoorVal5
namespace Go.Proofs.YthdmmhiifkebeaaDoor
open Go.RowKit Go.Sort

def brH (h : Hd) : Bool := decide (h.kind = 3) && nanB h.f.toNat
def brF : Fo → Bool
  | .nil => false
  | .cons h k r => (brH h || brF k) || brF r
def brD (h : Hd) (k : Fo) : Bool := brH h || brF k
theorem brF_cons (h : Hd) (k r : Fo) : brF (.cons h k r) = (brD h k || brF r) := rfl
def BrC (h : Hd) (k : Fo) : Prop := ∀ (w : World) (S : Nat → Prop) (pa : Option Addr) (pc : Nat) (ia : Option Addr) (ic : Nat), DatAt w S h k pa pc ia ic →
  Calls Tryd.prog 33 #[.agg (h.cells pa pc ia k.len ic)] w fun e w' => e = .returned (.bool (brD h k)) ∧ Below w.heap.size w w'
set_option maxRecDepth 100000 in
set_option maxHeartbeats 2000000 in
theorem broken_one (h : Hd) (k : Fo) (ho : h.ok) (hkl : k.len ≤ 1034834473170) (ih : ∀ i h' k', k.get i = some (h', k') → BrC h' k') : BrC h k := by
  intro w S pa pc ia ic hd
  obtain ⟨n, hn⟩ : ∃ n : Nat, h.f = n := ⟨h.f.toNat, by have := ho.f0; omega⟩
  have hnl : n ≤ 18446744073709551615 := by have := ho.f1; omega
  have hm := mask11 (n / 4503599627370496) (by omega)
  have hx : bits .and .u64 ((n : Int) / 4503599627370496) 2047 = ((n / 4503599627370496 % 2048 : Nat) : Int) := by rw [← hm]; congr 1
  have HX := Lib.hid hx
  have hwr : IntKind.u64.wrap ((n : Int) * 4096) = ((n * 4096 % 18446744073709551616 : Nat) : Int) := by simp [IntKind.wrap, IntKind.signed, IntKind.bits]
  have HW := Lib.hid hwr
  have HN := Lib.hid hn
  have HD := Lib.hid hd
  have HIH := Lib.hid ih
  clear hx hm hwr hn hd ih
  unfold Hd.cells
  go_enter Tryd.func33, Tryd.ntmps33
  go_upto_region 0 with fail
  go_cut [0, 1, 2] (fun _ t1 _ wx => t1 = .pointer (some ⟨w.heap.size, 0, none⟩) ∧ Blk wx w.heap.size 28 (h.cells pa pc ia k.len ic) ∧ Below w.heap.size w wx)
  case first =>
    go_wp2_with fail
    go_meet
    case rel => exact ⟨rfl, Blk.new _ _ _, by ((repeat' (first | exact Below.refl _ _ | assumption | (refine bl_alloc ?_ _) | (refine Below.drew ?_) | (refine below_drewN ?_ _) | (refine Below.setCell ?_ ?_ _) | (refine bl_trans ?_ (by assumption)))) <;> first | omega | (simp; done) | (simp; omega))⟩
  case rest =>
  obtain ⟨rfl, hA, hbw⟩ := hcut
  obtain ⟨w0, rfl⟩ : ∃ w0 : World, w0 = wc := ⟨_, rfl⟩
  obtain ⟨c0, c1, c2, c3, c4, c5, c6, c7, c8, c9, c10⟩ := (CellsAt.of_blk hA).box
  rw [HN.out] at c3
  go_upto_region 1 with fail
  go_cut [20] (fun t wx => t = .bool (brH h) ∧ w0 = wx)
  case first =>
    as_aux_lemma =>
      by_cases h3 : h.kind = 3
      · have hB : Hid (brH h = nanB n) := by unfold Hid brH; rw [decide_eq_true h3, HN.out]; rfl
        rw [h3] at c0
        clear h3
        go_wp2_with fail
        all_goals
          go_meet
          refine ⟨?_, rfl⟩
          rw [hB.out]
          refine congrArg Value.bool ?_
          rename_i hb
          rw [HX.out] at hb
          first
            | (rw [HW.out, nanB, Bool.eq_iff_iff, bne_iff_ne, decide_eq_true_iff]; omega)
            | (rw [nanB]; symm; rw [decide_eq_false_iff_not]; omega)
            | (rw [HW.out, nanB]; rw [Bool.eq_iff_iff]; simp; omega)
      · have hB : Hid (brH h = false) := by unfold Hid brH; rw [decide_eq_false h3]; rfl
        have h3' : (h.kind == 3) = false := by simpa using h3
        go_wp2_with fail
        go_meet
        exact ⟨by rw [hB.out], rfl⟩
  case rest =>
  obtain ⟨rfl, rfl⟩ := hcut
  clear c0 c1 c2 c3 c4 c5 c6 c7 c8 c9 c10
  obtain ⟨b0, hb0⟩ : ∃ b, brH h = b := ⟨_, rfl⟩
  rw [hb0]
  have HB := Lib.hid hb0
  have HA := Lib.hid hA
  clear hb0 hA
  cases b0
  · go_wp2_with fail
    go_loopg [3] k.len (fun g i wr => ∃ j : Nat, j ≤ k.len ∧ i = .int .i64 j ∧ g = k.len - j ∧ Below w.heap.size w wr ∧ Blk wr w.heap.size 28 (h.cells pa pc ia k.len ic) ∧ Hid (brF k = brF (k.drop j)))
    case atStart => exact ⟨0, by omega, rfl, by omega, hbw, HA.out, by unfold Hid; simp⟩
    case round =>
    obtain ⟨j, hj, rfl, rfl, hbr, hAr, HF⟩ := hrel
    obtain ⟨c0, c1, c2, c3, c4, c5, c6, c7, c8, c9, c10⟩ := (CellsAt.of_blk hAr).box
    by_cases hlt : j < k.len
    · obtain ⟨h', k', hget⟩ := Fo.get_lt k j hlt
      have hks : SlAt _ S ia k := (HD.out.below hbr (fun b _ h => h)).kids
      obtain ⟨b, o, rfl, hSb, pa', pc', ia', ic', hcs, hda⟩ := hks.get hget
      obtain ⟨d0, d1, d2, d3, d4, d5, d6, d7, d8, d9, d10⟩ := hcs.eleven
      have hih := HIH.out j h' k' hget wr S pa' pc' ia' ic' hda
      have HDr : Hid (brF (k.drop j) = (brD h' k' || brF (k.drop (j + 1)))) := by unfold Hid; rw [Fo.drop_get k j h' k' hget, brF_cons]
      obtain ⟨q, hq⟩ : ∃ q, brD h' k' = q := ⟨_, rfl⟩
      rw [hq] at hih HDr
      unfold Hd.cells at hih
      have HI := Lib.hid hih
      clear hih hget hcs hda hks hq
      go_wp2_with fail
      refine HI.out.mono ?_
      rintro e w4 ⟨rfl, hb4⟩
      have hbr4 : Below w.heap.size w w4 := bl_trans hbr hb4
      have hA4 := hAr.below hb4 hAr.lt
      clear HI d0 d1 d2 d3 d4 d5 d6 d7 d8 d9 d10 hb4 c0 c1 c2 c3 c4 c5 c6 c7 c8 c9 c10 hbr hAr
      cases q
      · go_wp2_with fail
        go_roundg (k.len - (j + 1))
        case measure => omega
        case rel => exact ⟨j + 1, by omega, by go_num, rfl, hbr4, hA4, by unfold Hid; rw [HF.out, HDr.out]; rfl⟩
      · go_wp2_with fail
        go_ret
        exact ⟨by rw [brD, HF.out, HDr.out]; simp, hbr4⟩
    · have hjk : j = k.len := by omega
      subst hjk
      go_wp2_with fail
      go_ret
      exact ⟨by rw [brD, HB.out, HF.out, Fo.drop_len k _ (Nat.le_refl _)]; rfl, hbr⟩
  · go_wp2_with fail
    go_ret
    exact ⟨by rw [brD, HB.out]; rfl, hbw⟩
theorem broken_all : ∀ (f : Fo), f.ok → ∀ i h k, f.get i = some (h, k) → BrC h k
  | .nil, _, i, h, k, e => by simp [Fo.get] at e
  | .cons h' k' r, o, 0, h, k, e => by
    simp only [Fo.get, Option.some.injEq, Prod.mk.injEq] at e
    obtain ⟨rfl, rfl⟩ := e
    exact broken_one _ _ o.1 o.2.2.2 (broken_all k' o.2.1)
  | .cons h' k' r, o, i + 1, h, k, e => broken_all r o.2.2.1 i h k e
theorem broken_any (h : Hd) (k : Fo) (ho : h.ok) (hk : k.ok) (hl : k.len ≤ 1034834473170) : BrC h k := broken_one h k ho hl (broken_all k hk)
end Go.Proofs.YthdmmhiifkebeaaDoor
