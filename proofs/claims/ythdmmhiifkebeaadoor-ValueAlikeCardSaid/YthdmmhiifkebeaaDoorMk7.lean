/-
  Contract of the law's own (*Maker).made, walked. Written by an AI agent.
-/
import Derived.Test.YthdmmhiifkebeaaDoorMk6
namespace Go.Proofs.YthdmmhiifkebeaaDoor
open Go.RowKit Go.Sort

def timesI (n : Nat) (x : Int) : Int := match n with | 0 => 0 | n + 1 => timesI n x + x
theorem timesI_3 {n : Nat} {x : Int} (hn : n ≤ 3) (hx : 0 ≤ x) : timesI n x ≤ 3 * x := by
  have h : n = 0 ∨ n = 1 ∨ n = 2 ∨ n = 3 := by omega
  rcases h with rfl | rfl | rfl | rfl <;> simp only [timesI] <;> omega
theorem timesI_mono {n : Nat} {x : Int} (hn : n ≤ 2) (hx : 0 ≤ x) : timesI n x ≤ 2 * x := by
  have h : n = 0 ∨ n = 1 ∨ n = 2 := by omega
  rcases h with rfl | rfl | rfl <;> simp only [timesI] <;> omega
def timesN (n : Nat) (x : Nat) : Nat := match n with | 0 => 0 | n + 1 => timesN n x + x
theorem timesN_3 {n x : Nat} (hn : n ≤ 3) : timesN n x ≤ 3 * x := by
  have h : n = 0 ∨ n = 1 ∨ n = 2 ∨ n = 3 := by omega
  rcases h with rfl | rfl | rfl | rfl <;> simp only [timesN] <;> omega
def MadeC (m : Nat) : Prop := ∀ (g B : Nat) (a : Int) (w : World), a + aM m ≤ 4611686018427385000 → Mk w g B a →
  Calls Tryd.prog 32 #[.pointer (some ⟨g, 0, none⟩), .int .i64 (3 - m)] w (MadePost m g B a w)
/-- What is known once it is said whether the datum is to be a struct. -/
def Begun (_m g B : Nat) (a : Int) (w wx : World) : Prop := (∃ a1, a ≤ a1 ∧ a1 ≤ a + 1 ∧ Mk wx g B a1) ∧ (∃ cs, cs.size = 11 ∧ Blk wx w.heap.size 28 cs) ∧ w.grownBy wx (some g)
def Laid (g B : Nat) (a : Int) (w wx : World) (v : Value) : Prop := ∃ D ty a1, v = .pointer (some ⟨D, 0, none⟩) ∧ declB ty = true ∧ ty.size ≤ 40 ∧ a ≤ a1 ∧ a1 ≤ a + 2 ∧ KD w wx g B D a1 ty .nil (.slice none 0 0) none 0
def Filled (m g B D : Nat) (a : Int) (ty : ByteArray) (w wr : World) (j : Int) : Prop := ∃ f v ia ic a1, KD w wr g B D a1 ty f v ia ic ∧ f.ok ∧ okF f = true ∧ f.len + j ≤ 3 ∧ cntF f ≤ timesN f.len (1 + cM m) ∧ a ≤ a1 ∧ a1 ≤ a + timesI f.len (aM m)
theorem sH_ok {ty : ByteArray} (h : ty.size ≤ 40) : (sH ty).ok := hd_ok ⟨by decide, by decide⟩ ok0 ⟨by decide, by decide⟩ ⟨by decide, by decide⟩ ⟨by decide, by decide⟩ ⟨by decide, by decide⟩ ⟨by decide, by decide⟩ h (by decide) (by decide) (fun x hx => by cases hx)
theorem sH_head {ty : ByteArray} {n : Nat} (hd : declB ty = true) (hn : n ≤ 3) : headB (sH ty) n = true := by
  have hn1 : namedB (sH ty) = true := hd
  unfold headB okB ok2B ok1B
  rw [hn1]
  simp [sH, leadsB, plainB, emp, ByteArray.size]
  omega

set_option maxRecDepth 100000 in
set_option maxHeartbeats 40000000 in
theorem made_one (m : Nat) (hm3 : m ≤ 3) (ih : ∀ m', m = m' + 1 → MadeC m') : MadeC m := by
  intro g B a w ha hm
  have hap := aM_pos m
  have hg := hm.lt
  obtain ⟨d, hd⟩ : ∃ d : Int, 3 - (m : Int) = d := ⟨_, rfl⟩
  rw [hd]
  have HD := Lib.hid hd
  have HIH := Lib.hid ih
  clear hd ih
  go_enter Tryd.func32, Tryd.ntmps32
  go_upto_region 0 with fail
  go_cut [4] (fun t wx => t = .pointer (some ⟨w.heap.size, 0, none⟩) ∧ (∃ cs, cs.size = 11 ∧ Blk wx w.heap.size 28 cs) ∧ Below w.heap.size w wx)
  case first =>
    go_wp2_with fail
    go_meet
    case rel => exact ⟨rfl, ⟨_, by rfl, Blk.new _ _ _⟩, by ((repeat' (first | exact Below.refl _ _ | assumption | (refine bl_alloc ?_ _) | (refine Below.drew ?_) | (refine below_drewN ?_ _) | (refine Below.setCell ?_ ?_ _) | (refine bl_trans ?_ (by assumption)))) <;> first | omega | (simp; done) | (simp; omega))⟩
  case rest =>
  obtain ⟨rfl, hR, hb0⟩ := hcut
  obtain ⟨w0, rfl⟩ : ∃ w0 : World, w0 = wc := ⟨_, rfl⟩
  have HR := Lib.hid hR
  have hm0 := hm.below hb0
  clear hR hm
  go_upto_region 1 with fail
  go_cut [13] (fun s wx => (s = .bool true ∨ (s = .bool false ∧ m ≠ 0)) ∧ Begun m g B a w wx)
  case first =>
    as_aux_lemma =>
      by_cases hz : m = 0
      · have h3 : 3 ≤ d := by have := HD.out; omega
        have hB : Begun m g B a w w0 := ⟨⟨a, by omega, by omega, hm0⟩, HR.out, grown_below_left hb0 (grown_self w0 g)⟩
        have HB := Lib.hid hB
        clear hB hz
        go_wp2_with fail
        go_meet
        case rel => exact ⟨.inl rfl, HB.out⟩
      · have h3 : d < 3 := by have := HD.out; omega
        have HZ := Lib.hid hz
        clear hz
        go_wp2_with fail
        refine (next_any 3 (by decide) (by decide) g B a (by omega) w0 hm0).mono ?_
        rintro e w2 ⟨c, hc0, hc1, rfl, hm2, hg2⟩
        have hB : Begun m g B a w w2 := by
          refine ⟨⟨a + 1, by omega, by omega, hm2⟩, ?_, grown_below_left hb0 hg2⟩
          obtain ⟨cs, h1, h2⟩ := HR.out
          exact ⟨cs, h1, h2.grown hg2 (by simp; omega)⟩
        have HB := Lib.hid hB
        clear hB hm2 hg2 hm0
        by_cases hc : 0 < c
        · go_wp2_with fail
          go_meet
          case rel => exact ⟨.inl rfl, HB.out⟩
        · have hcz : c ≤ 0 := by omega
          clear hc
          go_wp2_with fail
          go_meet
          case rel => exact ⟨.inr ⟨by rw [decide_eq_false (by omega), decide_eq_false (by omega)]; rfl, HZ.out⟩, HB.out⟩
  case rest =>
  obtain ⟨hs, ⟨a1, hal, hau, hm1⟩, hR1, hg1⟩ := hcut
  obtain ⟨w1, rfl⟩ : ∃ w0 : World, w0 = wc := ⟨_, rfl⟩
  have HR1 := Lib.hid hR1
  have hs1 := hg1.size
  have hlR : w.heap.size < w1.heap.size := by obtain ⟨cs, _, h⟩ := HR1.out; exact h.lt
  clear hR1 HR hm0 hb0
  rcases hs with rfl | ⟨rfl, hmz⟩
  · skip
    go_wp2_with fail
    refine (simple_any g B a1 (by omega) w1 hm1).mono ?_
    rintro e w2 ⟨h, pa, pc, rfl, hdd, hho, hhh, ⟨a2, hb1, hb2, hm2⟩, hg2⟩
    obtain ⟨cs, hcs, hR0⟩ := HR1.out
    have hR2 := hR0.grown hg2 (by simp; omega)
    have hst := run_store_cells hR2 0 h pa pc none 0 0 (by omega)
    have HC8 : Hid (CellsAt (w2.setCells w.heap.size 0 (h.cells pa pc none 0 0).toList) w.heap.size 0 (h.cells pa pc none 0 0)) := fun n v hv => World.rangeAt_setCells_same w2 w.heap.size 0 _ (there_blk hR2 (by rw [hcs]; simp [Hd.cells])) n v (by simpa using hv)
    have hP : MadePost m g B a w (.returned (.agg (h.cells pa pc none 0 0))) (w2.setCells w.heap.size 0 (h.cells pa pc none 0 0).toList) := by
      refine ⟨h, .nil, pa, pc, none, 0, rfl, hdd.keep (fun b hb _ => setCells_heap _ _ _ _ _ (by have : w1.heap.size ≤ b := hb; omega)) (fun b hb _ => by have : w1.heap.size ≤ b := hb; show w.heap.size ≤ b; omega), hho, trivial, by simp [Fo.len], hhh, rfl, by simp [cntF], ⟨a2, by omega, by omega, Mk.cells hg _ _ _ hm2⟩, grown_cells _ _ (grown_trans hg1 hg2) (Nat.le_refl _)⟩
    have HP := Lib.hid hP
    clear hP hdd hho hhh hm2 hg2 hm1 hR0 hR2 hcs
    go_wp2_with fail
    generalize w2.setCells w.heap.size 0 (h.cells pa pc none 0 0).toList = w3 at HC8 HP ⊢
    obtain ⟨q0, q1, q2, q3, q4, q5, q6, q7, q8, q9, q10⟩ := HC8.out.box
    exact bodyPost_ret (v := .agg (h.cells pa pc none 0 0)) (by simp [results, Tryd.results32, go_sem, q0, q1, q2, q3, q4, q5, q6, q7, q8, q9, q10, Hd.cells]) rfl HP.out
  obtain ⟨m', rfl⟩ : ∃ m', m = m' + 1 := ⟨m - 1, by omega⟩
  have hd2 : (3 - (m' : Int)) = d + 1 := by have := HD.out; omega
  have hdl : 0 ≤ d := by omega
  have hdu : d ≤ 2 := by omega
  have hx : aM (m' + 1) = 12 + 3 * aM m' := rfl
  have hxp := aM_pos m'
  have HX := Lib.hid hx
  have HI : Hid (∀ (a : Int) (w : World), a + aM m' ≤ 4611686018427385000 → Mk w g B a → Calls Tryd.prog 32 #[.pointer (some ⟨g, 0, none⟩), .int .i64 (d + 1)] w (MadePost m' g B a w)) := fun a w h1 h2 => by
    rw [← hd2]
    exact HIH.out m' rfl g B a w h1 h2
  clear hd2 HIH HD hx hmz
  go_upto_region 3 with fail
  go_cut [5] (fun s wx => Laid g B a1 w wx s)
  case first =>
    go_wp2_with fail
    refine (next_any 2 (by decide) (by decide) g B a1 (by have := HX.out; omega) _ (hm1.below (bl_alloc (Below.refl _ _) (.cells #[.string ⟨#[83]⟩, .string ⟨#[84]⟩] 9)))).mono ?_
    rintro e w2 ⟨c, hc0, hc1, rfl, hm2, hg2⟩
    have hblk := (Blk.new w1 9 #[.string ⟨#[83]⟩, .string ⟨#[84]⟩]).grown hg2 (by simp; omega)
    have t0 : w2.cell? ⟨w1.heap.size, 0, none⟩ = some (.string ⟨#[83]⟩) := (hblk.cell 0).trans rfl
    have t1 : w2.cell? ⟨w1.heap.size, 1, none⟩ = some (.string ⟨#[84]⟩) := (hblk.cell 1).trans rfl
    have hs2 := hg2.size
    have hKD : ∀ ty, KD w (w2.alloc (.cells ((sH ty).cells none 0 none 0 0) 28)) g B w2.heap.size (a1 + 1) ty .nil (.slice none 0 0) none 0 := fun ty => by
      refine ⟨rfl, Blk.new _ _ _, ⟨[], ⟨rfl, .inl ⟨rfl, rfl⟩⟩, rfl⟩, fun x hx => by simp [Value.ownBlock] at hx, hm2.below (bl_alloc (Below.refl _ _) _), ?_, grown_alloc (grown_trans (grown_alloc hg1 _) hg2) _, hg, by simp at hs2; omega⟩
      obtain ⟨cs, h1, h2⟩ := HR1.out
      exact ⟨cs, h1, ((h2.alloc _).grown hg2 (by simp; omega)).alloc _⟩
    have HKD := Lib.hid hKD
    clear hKD hblk hm2 hg2 hm1 hs2
    have hc2 : c = 0 ∨ c = 1 := by omega
    rcases hc2 with rfl | rfl
    · go_wp2_with fail
      go_meet
      case rel => exact ⟨_, ⟨#[83]⟩, a1 + 1, rfl, by decide, by decide, by omega, by omega, HKD.out _⟩
    · go_wp2_with fail
      go_meet
      case rel => exact ⟨_, ⟨#[84]⟩, a1 + 1, rfl, by decide, by decide, by omega, by omega, HKD.out _⟩
  case rest =>
  obtain ⟨D, ty, a2, rfl, hdecl, htl, hal2, hau2, hK⟩ := hcut
  obtain ⟨w2, rfl⟩ : ∃ w0 : World, w0 = wc := ⟨_, rfl⟩
  have HK := Lib.hid hK
  clear hK hm1 HR1 hg1 hs1 hlR
  go_wp2_with fail
  refine (next_any 4 (by decide) (by decide) g B a2 (by have := HX.out; omega) w2 HK.out.maker).mono ?_
  rintro e w3 ⟨c, hc0, hc1, rfl, hm3, hg3⟩
  have HK3 := Lib.hid (HK.out.step hm3 hg3)
  clear hm3 hg3 HK
  go_wp2_with fail
  go_loopg [6] c.toNat (fun gk s wr => ∃ j : Int, s = .int .i64 j ∧ 0 ≤ j ∧ j ≤ 3 ∧ gk = j.toNat ∧ Filled m' g B D (a2 + 1) ty w wr j)
  case atStart => exact ⟨c, rfl, hc0, by omega, rfl, .nil, _, _, _, _, HK3.out, trivial, rfl, by simp [Fo.len]; omega, by simp [cntF], by omega, by simp [Fo.len, timesI]⟩
  case round =>
  obtain ⟨j, rfl, hj0, hj1, rfl, f, v, ia, ic, a3, hK, hfo, hfk, hfl, hfc, hfa, hfb⟩ := hrel
  clear HK3
  have HK := Lib.hid hK
  clear hK
  by_cases hjp : 0 < j
  · go_upto_block 1 with fail
    go_cut [6] (fun s wx => s = .int .i64 j ∧ Filled m' g B D (a2 + 1) ty w wx (j - 1))
    case first =>
      obtain ⟨i0, hi, hz0, hz1, hz2⟩ := info_parts info_dat
      obtain rfl := HK.out.vis
      have htm := timesI_mono (n := f.len) (x := aM m') (by omega) (by omega)
      have hlt := HK.out.dat.lt
      have HGD : Hid (wr.grownBy { wr with drawn := wr.drawn + 1 } (some g)) := ⟨rfl, rfl, rfl, Nat.le_refl _, fun _ _ _ => rfl⟩
      have HD := Lib.hid (HK.out.step (w2 := { wr with drawn := wr.drawn + 1 }) (HK.out.maker.below ⟨rfl, rfl, rfl, Nat.le_refl _, fun _ _ => rfl⟩) HGD.out)
      go_upto_region 7 with fail
      refine wp_region_eff (fun W => W.cell? ⟨D, 10, none⟩ = some (.slice ia f.len ic)) [0, 1, 2, 3, 4] [5, 6, 7] [_, _, _, _, _] [_, _, _] [_, _] 8 (by kernel_rfl) rfl rfl rfl rfl (by kernel_rfl) ?_
      iterate 5
        apply wpP_step _ rfl (by simp) rfl
        · intro W hW
          have c10 : W.cell? ⟨D, 10, none⟩ = some (.slice ia f.len ic) := hW
          go_wp2_with fail
          exact ⟨rfl, rfl⟩
        · rfl
      refine wpP_nil ?_
      refine And.intro ((HD.out.dat.cell 10).trans rfl) ?_
      go_wp2_with fail
      refine (HI.out a3 _ (by have := HX.out; omega) HD.out.maker).mono ?_
      rintro e w6 ⟨h, k, pa, pc, ja, jc, rfl, hdk, hho, hko, hkl, hhh, hkk, hkc, ⟨a4, ha4, hb4, hm6⟩, hg6⟩
      have hs6 := hg6.size
      have HD6 := Lib.hid (HD.out.step hm6 hg6)
      go_wp2_with fail
      refine And.intro ((HD6.out.dat.cell 10).trans rfl) ?_
      refine wpList_buildD1 _ rfl (.tmp 33) rfl h pa pc ja k.len jc rfl ?_
      have HD7 := Lib.hid (HD6.out.alloc (.cells (h.cells pa pc ja k.len jc) 28))
      refine And.intro ((HD7.out.dat.cell 10).trans rfl) ?_
      have hnews : ∀ (q : Nat) (u : Value), (h.cells pa pc ja k.len jc).toList[q]? = some u → (w6.alloc (.cells (h.cells pa pc ja k.len jc) 28)).cell? ((⟨w6.heap.size, 0, none⟩ : Addr).add q) = some u := by
        intro q u hq
        rw [add_addr, Nat.zero_add, (Blk.new w6 28 (h.cells pa pc ja k.len jc)).cell q]
        simpa using hq
      obtain ⟨xs, ho1, ho2⟩ := HD7.out.own
      refine wpList_append_own_at _ rfl (.tmp 29) (.tmp 34) _ rfl (w.heap.size + 1) 28 i0 _ 11 136 Tryd.underlying26 hi hz0 hz1 hz2 rfl (by omega) (.slice ia f.len ic) f.len xs rfl ho1 ⟨w6.heap.size, 0, none⟩ 1 1 (h.cells pa pc ja k.len jc).toList rfl (by rw [cells_len]) hnews (fun u hu => by simp [Hd.cells] at hu; rcases hu with rfl | rfl | rfl | rfl | rfl | rfl | rfl | rfl | rfl | rfl | rfl <;> rfl) (by unfold maxLen; omega) (by omega) (by have := HD7.out.dat.lt; have := HD7.out.dw; omega) ?_
      intro v' w8 hown' hgrow _ hblk'
      have hol := own_lt HD.out.own.choose_spec.1
      obtain ⟨hdat8, ia', ic', hv', hS8⟩ := HD7.out.push (hdk.keep (fun b hb hlt => Below.heap_alloc _ _ _ hlt) (fun b hb hlt => ⟨by have hb : wr.heap.size ≤ b := hb; omega, by simp; omega, fun e => by have hb : wr.heap.size ≤ b := hb; have : b < wr.heap.size := hol b e.symm; omega⟩)) ho2 hown' hgrow hblk'
      refine And.intro ((hdat8.cell 10).trans rfl) ?_
      have c10 : w8.cell? ⟨D, 10, none⟩ = some (.slice ia f.len ic) := (hdat8.cell 10).trans rfl
      have f10 := hdat8.frozen 10
      subst hv'
      have HS8 := Lib.hid hS8
      clear hS8 hown' hgrow hblk' hnews hdat8 hi hz0 hz1 hz2 ho1 ho2 hdk hg6 hm6
      go_wp2_with fail
      unfold outQ
      go_wp2_with fail
      go_meet
      case rel =>
        refine ⟨rfl, f.snoc h k, _, _, _, _, HS8.out, snoc_ok f h k hfo hho hko (by omega), snoc_okF f h k hfk hhh hkk, by rw [snoc_len]; omega, ?_, by omega, ?_⟩
        · rw [snoc_cnt, snoc_len]; simp only [timesN]; omega
        · rw [snoc_len]; simp only [timesI]; omega
    case rest =>
    obtain ⟨rfl, hpt⟩ := hcut
    obtain ⟨w8, rfl⟩ : ∃ w8 : World, w8 = wc := ⟨_, rfl⟩
    clear HK
    go_wp2_with fail
    go_roundg ((j - 1).toNat)
    case measure => omega
    case rel => exact ⟨j - 1, by go_num, by omega, by omega, rfl, hpt⟩
  · have hjz : j = 0 := by omega
    subst hjz
    have htm := timesI_3 (n := f.len) (x := aM m') (by omega) (by omega)
    have htc := timesN_3 (n := f.len) (x := 1 + cM m') (by omega)
    have hB := HK.out.back (m := m' + 1) (a0 := a) hfo (sH_head hdecl (by omega)) (sH_ok htl) (by omega) hfk (by show cntF f ≤ 3 * (1 + cM m'); omega) (by omega) (by have := HX.out; omega)
    have HB := Lib.hid hB
    obtain ⟨c0, c1, c2, c3, c4, c5, c6, c7, c8, c9, c10⟩ := (CellsAt.of_blk HK.out.dat).box
    obtain ⟨cs, hcs, hR⟩ := HK.out.res
    have hfr := fun j => hR.frozen j
    obtain ⟨v0, v1, v2, v3, v4, v5, v6, v7, v8, v9, v10, q0, q1, q2, q3, q4, q5, q6, q7, q8, q9, q10⟩ := hR.eleven hcs
    clear hB HK HI HX
    go_wp2_with fail
    exact bodyPost_ret (v := .agg ((sH ty).cells none 0 ia f.len ic)) (by simp [results, Tryd.results32, go_sem, q0, q1, q2, q3, q4, q5, q6, q7, q8, q9, q10, Hd.cells]) rfl HB.out
theorem made_all : ∀ m, m ≤ 3 → MadeC m
  | 0, h => made_one 0 h (fun m' e => by omega)
  | m + 1, h => made_one (m + 1) h (fun m' e => by
    have : m' = m := by omega
    subst this
    exact made_all m' (by omega))
end Go.Proofs.YthdmmhiifkebeaaDoor
