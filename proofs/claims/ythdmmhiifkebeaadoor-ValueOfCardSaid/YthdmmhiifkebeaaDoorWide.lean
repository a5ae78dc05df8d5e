/-
  Contract of the law's own wide: some number, not less than 1. Written by an AI agent.
-/
import Derived.Test.YthdmmhiifkebeaaDoorVal3
import Derived.Test.YthdmmhiifkebeaaDoorQ
import Derived.Deep.CutBlock
namespace Go.Proofs.YthdmmhiifkebeaaDoor
open Go.RowKit Go.Sort

def WidePost (m : Int) (w : World) (e : Ending) (w' : World) : Prop := ∃ n : Int, 1 ≤ n ∧ n ≤ m + 17592186043905 ∧ e = .returned (.int .i64 n) ∧ Below w.heap.size w w'
def WideC (h : Hd) (k : Fo) : Prop := ∀ (m : Int) (w : World) (S : Nat → Prop) (pa : Option Addr) (pc : Nat) (ia : Option Addr) (ic : Nat), 0 ≤ m → m ≤ 5000 → DatAt w S h k pa pc ia ic →
  Calls Tryd.prog 28 #[.agg (h.cells pa pc ia k.len ic), .int .i64 m] w (WidePost m w)
set_option maxRecDepth 100000 in
set_option maxHeartbeats 2000000 in
theorem wide_one (h : Hd) (k : Fo) (ho : h.ok) (hkl : k.len ≤ 1034834473170) (ih : ∀ i h' k', k.get i = some (h', k') → WideC h' k') : WideC h k := by
  intro m w S pa pc ia ic hm0 hm1 hd
  have hpl := ho.path
  unfold Hd.cells
  go_enter Tryd.func28, Tryd.ntmps28
  go_upto_region 0 with fail
  go_cut [0, 2, 4] (fun _ t1 _ wx => t1 = .pointer (some ⟨w.heap.size, 0, none⟩) ∧ Blk wx w.heap.size 28 (h.cells pa pc ia k.len ic) ∧ Below w.heap.size w wx)
  case first =>
    go_wp2_with fail
    go_meet
    case rel => exact ⟨rfl, Blk.new _ _ _, by ((repeat' (first | exact Below.refl _ _ | assumption | (refine bl_alloc ?_ _) | (refine Below.drew ?_) | (refine below_drewN ?_ _) | (refine Below.setCell ?_ ?_ _) | (refine bl_trans ?_ (by assumption)))) <;> first | omega | (simp; done) | (simp; omega))⟩
  case rest =>
  obtain ⟨rfl, hA, hbw⟩ := hcut
  obtain ⟨w0, rfl⟩ : ∃ w0 : World, w0 = wc := ⟨_, rfl⟩
  obtain ⟨c0, c1, c2, c3, c4, c5, c6, c7, c8, c9, c10⟩ := (CellsAt.of_blk hA).box
  have HD := Lib.hid hd
  have HIH := Lib.hid ih
  have HA := Lib.hid hA
  clear hd ih hA
  go_wp2_with fail
  clear c0 c1 c2 c3 c4 c5 c6 c7 c8 c9 c10
  go_loopg [5, 6] k.len (fun g n i wr => ∃ (j : Nat) (x : Int), j ≤ k.len ∧ n = .int .i64 x ∧ i = .int .i64 j ∧ g = k.len - j ∧ Below w.heap.size w wr ∧ Blk wr w.heap.size 28 (h.cells pa pc ia k.len ic) ∧ 1 ≤ x ∧ x ≤ m + 17592186043905)
  case atStart => exact ⟨0, _, by omega, rfl, rfl, by omega, hbw, HA.out, by omega, by omega⟩
  case round =>
  obtain ⟨j, x, hj, rfl, rfl, rfl, hbr, hAr, hx1, hx2⟩ := hrel
  obtain ⟨c0, c1, c2, c3, c4, c5, c6, c7, c8, c9, c10⟩ := (CellsAt.of_blk hAr).box
  by_cases hlt : j < k.len
  · by_cases hx : x ≤ m
    · obtain ⟨h', k', hget⟩ := Fo.get_lt k j hlt
      have hks : SlAt _ S ia k := (HD.out.below hbr (fun b _ h => h)).kids
      obtain ⟨b, o, rfl, hSb, pa', pc', ia', ic', hcs, hda⟩ := hks.get hget
      obtain ⟨d0, d1, d2, d3, d4, d5, d6, d7, d8, d9, d10⟩ := hcs.eleven
      have hih := HIH.out j h' k' hget (m - x) wr S pa' pc' ia' ic' (by omega) (by omega) hda
      unfold Hd.cells at hih
      have HI := Lib.hid hih
      clear hih hget hcs hda hks
      go_wp2_with fail
      refine HI.out.mono ?_
      rintro e w4 ⟨y, hy1, hy2, rfl, hb4⟩
      have hbr4 : Below w.heap.size w w4 := bl_trans hbr hb4
      have hA4 := hAr.below hb4 hAr.lt
      clear HI d0 d1 d2 d3 d4 d5 d6 d7 d8 d9 d10 hb4 c0 c1 c2 c3 c4 c5 c6 c7 c8 c9 c10 hbr hAr
      go_wp2_with fail
      go_roundg (k.len - (j + 1))
      case measure => omega
      case rel => exact ⟨j + 1, _, by omega, rfl, by go_num, rfl, hbr4, hA4, by omega, by omega⟩
    · have hxx : m < x := by omega
      go_wp2_with fail
      go_ret
      exact ⟨x, hx1, hx2, rfl, hbr⟩
  · have hjk : j = k.len := by omega
    subst hjk
    go_wp2_with fail
    go_ret
    exact ⟨x, hx1, hx2, rfl, hbr⟩
theorem wide_all : ∀ (f : Fo), f.ok → ∀ i h k, f.get i = some (h, k) → WideC h k
  | .nil, _, i, h, k, e => by simp [Fo.get] at e
  | .cons h' k' r, o, 0, h, k, e => by
    simp only [Fo.get, Option.some.injEq, Prod.mk.injEq] at e
    obtain ⟨rfl, rfl⟩ := e
    exact wide_one _ _ o.1 o.2.2.2 (wide_all k' o.2.1)
  | .cons h' k' r, o, i + 1, h, k, e => wide_all r o.2.2.1 i h k e
theorem wide_any (h : Hd) (k : Fo) (ho : h.ok) (hk : k.ok) (hl : k.len ≤ 1034834473170) : WideC h k := wide_one h k ho hl (wide_all k hk)
end Go.Proofs.YthdmmhiifkebeaaDoor
