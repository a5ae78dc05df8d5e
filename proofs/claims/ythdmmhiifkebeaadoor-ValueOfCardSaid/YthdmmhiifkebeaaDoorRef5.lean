/-
  Contract of the reference's Size. Written by an AI agent.
-/
import Derived.Test.YthdmmhiifkebeaaDoorLaw1
import Derived.Deep.CutBlock
namespace Go.Proofs.YthdmmhiifkebeaaDoor
open Go.RowKit Go.Sort

def SizeC (h : Hd) (k : Fo) : Prop := ∀ (w : World) (S : Nat → Prop) (pa : Option Addr) (pc : Nat) (ia : Option Addr) (ic : Nat), DatAt w S h k pa pc ia ic →
  Calls Tryd.prog 57 #[.agg (h.cells pa pc ia k.len ic)] w fun e w' => e = .returned (.int .i64 (sizeD h k)) ∧ Below w.heap.size w w'
theorem sizeF_drop (k : Fo) (j : Nat) (h' : Hd) (k' : Fo) (n : Int) (e : k.get j = some (h', k')) (hn : n ≤ 100) : sizeF (k.drop j) n = sizeF (k.drop (j + 1)) (n + sizeD h' k') := by
  rw [Fo.drop_get k j h' k' e, sizeF_cons, if_neg (by omega)]
set_option maxRecDepth 100000 in
set_option maxHeartbeats 2000000 in
theorem size_one (h : Hd) (k : Fo) (_ho : h.ok) (_hk : k.ok) (ih : ∀ i h' k', k.get i = some (h', k') → SizeC h' k') : SizeC h k := by
  intro w S pa pc ia ic hd
  obtain ⟨hA, hbw⟩ : Blk (w.alloc (.cells (h.cells pa pc ia k.len ic) 28)) w.heap.size 28 (h.cells pa pc ia k.len ic) ∧ Below w.heap.size w (w.alloc (.cells (h.cells pa pc ia k.len ic) 28)) := ⟨Blk.new _ _ _, bl_alloc (Below.refl _ _) _⟩
  by_cases h8 : h.kind = 8
  · rcases Nat.lt_or_ge 100 k.len with h1 | h1
    · have HS : Hid (sizeD h k = 101) := Lib.hid (by unfold sizeD; rw [if_neg (by omega), if_pos h1])
      have h2 : (100 : Int) < (k.len : Int) := by omega
      have HB := Lib.hid hbw
      clear hbw hA
      unfold Hd.cells at *
      rw [h8] at *
      go_enter Tryd.func57, Tryd.ntmps57
      go_wp2_with fail
      go_ret
      exact ⟨ret_int HS.out.symm, HB.out⟩
    have h2 : (k.len : Int) ≤ 100 := by omega
    have HS : Hid (sizeD h k = if 100 < sizeF k 1 then 101 else sizeF k 1) := Lib.hid (by unfold sizeD; rw [if_neg (by omega), if_neg (by omega)])
    clear hbw hA
    have H8 := Lib.hid h8
    clear h8
    unfold Hd.cells
    go_enter Tryd.func57, Tryd.ntmps57
    go_upto_region 0 with fail
    go_cut [0, 1, 2] (fun _ t1 _ wx => t1 = .pointer (some ⟨w.heap.size, 0, none⟩) ∧ Blk wx w.heap.size 28 (h.cells pa pc ia k.len ic) ∧ Below w.heap.size w wx)
    case first =>
      go_wp2_with fail
      go_meet
      case rel => exact ⟨rfl, Blk.new _ _ _, by ((repeat' (first | exact Below.refl _ _ | assumption | (refine bl_alloc ?_ _) | (refine Below.drew ?_) | (refine below_drewN ?_ _) | (refine Below.setCell ?_ ?_ _) | (refine bl_trans ?_ (by assumption)))) <;> first | omega | (simp; done) | (simp; omega))⟩
    case rest =>
    obtain ⟨rfl, hA, hbw⟩ := hcut
    obtain ⟨w0, rfl⟩ : ∃ w0 : World, w0 = wc := ⟨_, rfl⟩
    obtain ⟨c0, c1, c2, c3, c4, c5, c6, c7, c8, c9, c10⟩ := (CellsAt.of_blk hA).box
    rw [H8.out] at c0
    go_upto_block 0 with fail
    go_cut [3] (fun t wx => t = .int .i64 (sizeF k 1) ∧ Below w.heap.size w wx)
    case first =>
      have HD := Lib.hid hd
      have HIH := Lib.hid ih
      have HA := Lib.hid hA
      clear hd ih hA c0 c1 c2 c3 c4 c5 c6 c7 c8 c9 c10
      go_wp2_with fail
      go_loopg [3, 4] k.len (fun g n i wr => ∃ (j : Nat) (x : Int), j ≤ k.len ∧ n = .int .i64 x ∧ i = .int .i64 j ∧ g = k.len - j ∧ Below w.heap.size w wr ∧ Blk wr w.heap.size 28 (h.cells pa pc ia k.len ic) ∧ 1 ≤ x ∧ x ≤ 201 ∧ Hid (sizeF k 1 = sizeF (k.drop j) x))
      case atStart => exact ⟨0, 1, by omega, rfl, rfl, by omega, hbw, HA.out, by omega, by omega, by unfold Hid; simp⟩
      case round =>
      obtain ⟨j, x, hj, rfl, rfl, rfl, hbr, hAr, hx1, hx2, HN⟩ := hrel
      obtain ⟨c0, c1, c2, c3, c4, c5, c6, c7, c8, c9, c10⟩ := (CellsAt.of_blk hAr).box
      by_cases hlt : j < k.len
      · by_cases hx : x ≤ 100
        · obtain ⟨h', k', hget⟩ := Fo.get_lt k j hlt
          have hks : SlAt _ S ia k := (HD.out.below hbr (fun b _ h => h)).kids
          obtain ⟨b, o, rfl, hSb, pa', pc', ia', ic', hcs, hda⟩ := hks.get hget
          obtain ⟨d0, d1, d2, d3, d4, d5, d6, d7, d8, d9, d10⟩ := hcs.eleven
          have hih := HIH.out j h' k' hget wr S pa' pc' ia' ic' hda
          unfold Hd.cells at hih
          have HI := Lib.hid hih
          have HDr := Lib.hid (sizeF_drop k j h' k' x hget hx)
          have hsz := sizeD_range h' k' (sizeF_pos k')
          clear hih hget hcs hda hks
          go_wp2_with fail
          refine HI.out.mono ?_
          rintro e w4 ⟨rfl, hb4⟩
          have hbr4 : Below w.heap.size w w4 := bl_trans hbr hb4
          have hA4 := hAr.below hb4 hAr.lt
          clear HI d0 d1 d2 d3 d4 d5 d6 d7 d8 d9 d10 hb4 c0 c1 c2 c3 c4 c5 c6 c7 c8 c9 c10 hbr hAr
          go_wp2_with fail
          go_roundg (k.len - (j + 1))
          case measure => omega
          case rel => exact ⟨j + 1, _, by omega, rfl, by go_num, rfl, hbr4, hA4, by omega, by omega, by unfold Hid; rw [HN.out, HDr.out]⟩
        · have hxx : 100 < x := by omega
          go_wp2_with fail
          go_meet
          case rel => exact ⟨by rw [HN.out, sizeF_big _ _ hxx], hbr⟩
      · have hjk : j = k.len := by omega
        subst hjk
        go_wp2_with fail
        go_meet
        case rel => exact ⟨by rw [HN.out, Fo.drop_len k _ (Nat.le_refl _)]; rfl, hbr⟩
    case rest =>
    obtain ⟨rfl, hbw2⟩ := hcut
    obtain ⟨w2, rfl⟩ : ∃ w2 : World, w2 = wc := ⟨_, rfl⟩
    clear c0 c1 c2 c3 c4 c5 c6 c7 c8 c9 c10
    by_cases hx : 100 < sizeF k 1
    · go_wp2_with fail
      go_ret
      exact ⟨ret_int (by rw [HS.out, if_pos (by omega)]), hbw2⟩
    · go_wp2_with fail
      go_ret
      exact ⟨ret_int (by rw [HS.out, if_neg (by omega)]), hbw2⟩
  · have HS : Hid (sizeD h k = 1) := Lib.hid (by unfold sizeD; rw [if_pos h8])
    have HB := Lib.hid hbw
    clear hbw hA
    unfold Hd.cells at *
    go_enter Tryd.func57, Tryd.ntmps57
    go_wp2_with fail
    go_ret
    exact ⟨ret_int HS.out.symm, HB.out⟩

theorem size_all : ∀ (f : Fo), f.ok → ∀ i h k, f.get i = some (h, k) → SizeC h k
  | .nil, _, i, h, k, e => by simp [Fo.get] at e
  | .cons h' k' r, o, 0, h, k, e => by
    simp only [Fo.get, Option.some.injEq, Prod.mk.injEq] at e
    obtain ⟨rfl, rfl⟩ := e
    exact size_one _ _ o.1 o.2.1 (size_all k' o.2.1)
  | .cons h' k' r, o, i + 1, h, k, e => size_all r o.2.2.1 i h k e
theorem size_any (h : Hd) (k : Fo) (ho : h.ok) (hk : k.ok) : SizeC h k := size_one h k ho hk (size_all k hk)
end Go.Proofs.YthdmmhiifkebeaaDoor
