/-
  Contract of the reference's Same: it answers what the program's answers. Written by an AI agent.
-/
import Derived.Test.YthdmmhiifkebeaaDoorVal16
import Derived.Deep.CutBlock
import Derived.BigQuiet
namespace Go.Proofs.YthdmmhiifkebeaaDoor
open Go.RowKit Go.Sort

def RSameC (h : Hd) (k : Fo) (h' : Hd) (k' : Fo) : Prop := ∀ (w : World) (S T : Nat → Prop) (pa : Option Addr) (pc : Nat) (ia : Option Addr) (ic : Nat) (pa' : Option Addr) (pc' : Nat) (ia' : Option Addr) (ic' : Nat),
  DatAt w S h k pa pc ia ic → DatAt w T h' k' pa' pc' ia' ic' →
  Calls Tryd.prog 31 #[.agg (h.cells pa pc ia k.len ic), .agg (h'.cells pa' pc' ia' k'.len ic')] w fun e w' => e = .returned (.bool (sameD h k h' k')) ∧ Below w.heap.size w w'
def s1B (h h' : Hd) (n n' : Nat) : Bool := h.kind == h'.kind && (h.type.toList == h'.type.toList && (h.n == h'.n && (h.f == h'.f && (h.s.toList == h'.s.toList && ((n : Int) == (n' : Int) && ((h.path.length : Int) == (h'.path.length : Int)))))))
def s2B (h h' : Hd) : Bool := h.obj == h'.obj && (h.frm == h'.frm && (h.len == h'.len && h.cap == h'.cap))
theorem same_split (h : Hd) (k : Fo) (h' : Hd) (k' : Fo) : sameD h k h' k' = (s1B h h' k.len k'.len && s2B h h' && (decide (h.path = h'.path) && sameF k k')) := by
  have hl : sameF k k' = (((k.len : Int) == (k'.len : Int)) && sameF k k') := by
    cases hf : sameF k k' with
    | false => simp
    | true => rw [sameF_len k k' hf]; simp
  have hp : decide (h.path = h'.path) = (((h.path.length : Int) == (h'.path.length : Int)) && decide (h.path = h'.path)) := by
    by_cases e : h.path = h'.path
    · simp [e]
    · simp [e]
  unfold sameD sameHd oneB s1B s2B
  rw [beq_str, beq_str, hl, hp, Bool.eq_iff_iff]
  simp only [Bool.and_eq_true, decide_eq_true_iff, beq_iff_eq]
  constructor
  · rintro ⟨⟨⟨⟨a1, a2⟩, a3, a4, a5, a6, a7, a8, a9⟩, b1, b2⟩, c1, c2⟩
    exact ⟨⟨⟨a1, a2, a3, a4, a5, c1, b1⟩, a6, a7, a8, a9⟩, ⟨b1, b2⟩, c1, c2⟩
  · rintro ⟨⟨⟨a1, a2, a3, a4, a5, c1, b1⟩, a6, a7, a8, a9⟩, ⟨_, b2⟩, _, c2⟩
    exact ⟨⟨⟨⟨a1, a2⟩, a3, a4, a5, a6, a7, a8, a9⟩, b1, b2⟩, c1, c2⟩

theorem drop_dec2 {l m : List Int} {j : Nat} {x y : Int} (hx : l[j]? = some x) (hy : m[j]? = some y) : decide (l.drop j = m.drop j) = ((x == y) && decide (l.drop (j + 1) = m.drop (j + 1))) := by
  obtain ⟨hj1, rfl⟩ := List.getElem?_eq_some_iff.1 hx
  obtain ⟨hj2, rfl⟩ := List.getElem?_eq_some_iff.1 hy
  rw [List.drop_eq_getElem_cons hj1, List.drop_eq_getElem_cons hj2, Bool.eq_iff_iff]
  simp only [decide_eq_true_iff, Bool.and_eq_true, beq_iff_eq, List.cons.injEq]

set_option maxRecDepth 100000 in
set_option maxHeartbeats 4000000 in
theorem rsame_one (h : Hd) (k : Fo) (h' : Hd) (k' : Fo) (ho : h.ok) (_ho' : h'.ok) (hl : k.len ≤ 1034834473170) (ih : ∀ i a b a' b', k.get i = some (a, b) → k'.get i = some (a', b') → RSameC a b a' b') : RSameC h k h' k' := by
  intro w S T pa pc ia ic pa' pc' ia' ic' hd hd'
  have HSP := Lib.hid (same_split h k h' k')
  unfold Hd.cells
  go_enter Tryd.func31, Tryd.ntmps31
  go_upto_region 0 with fail
  go_cut [0, 1, 2, 3, 4] (fun _ _ t2 t3 _ wx => t2 = .pointer (some ⟨w.heap.size, 0, none⟩) ∧ t3 = .pointer (some ⟨w.heap.size + 1, 0, none⟩) ∧ Blk wx w.heap.size 28 (h.cells pa pc ia k.len ic) ∧ Blk wx (w.heap.size + 1) 28 (h'.cells pa' pc' ia' k'.len ic') ∧ Below w.heap.size w wx)
  case first =>
    go_wp2_with fail
    go_meet
    case rel => exact ⟨rfl, rfl, (Blk.new _ _ _).alloc _, Blk.new1 _ _ _ _, by ((repeat' (first | exact Below.refl _ _ | assumption | (refine bl_alloc ?_ _) | (refine Below.drew ?_) | (refine below_drewN ?_ _) | (refine Below.setCell ?_ ?_ _) | (refine bl_trans ?_ (by assumption)))) <;> first | omega | (simp; done) | (simp; omega))⟩
  case rest =>
  obtain ⟨rfl, rfl, hA, hB, hbw⟩ := hcut
  obtain ⟨w0, rfl⟩ : ∃ w0 : World, w0 = wc := ⟨_, rfl⟩
  obtain ⟨c0, c1, c2, c3, c4, c5, c6, c7, c8, c9, c10⟩ := (CellsAt.of_blk hA).box
  obtain ⟨d0, d1, d2, d3, d4, d5, d6, d7, d8, d9, d10⟩ := (CellsAt.of_blk hB).box
  go_upto_region 1 with fail
  go_cut [60] (fun t wx => t = .bool (!s1B h h' k.len k'.len) ∧ w0 = wx)
  case first =>
    have HS1 : Hid (s1B h h' k.len k'.len = (h.kind == h'.kind && (h.type.toList == h'.type.toList && (h.n == h'.n && (h.f == h'.f && (h.s.toList == h'.s.toList && ((k.len : Int) == (k'.len : Int) && ((h.path.length : Int) == (h'.path.length : Int))))))))) := Lib.hid rfl
    cases q0 : h.kind == h'.kind
    · rw [q0] at HS1
      have p0 : (h.kind != h'.kind) = true := by simp [bne, q0]
      clear q0
      go_wp2_with fail
      go_meet
      case rel => exact ⟨by rw [HS1.out]; rfl, rfl⟩
    rw [q0] at HS1
    have p0 : (h.kind != h'.kind) = false := by simp [bne, q0]
    clear q0
    cases q1 : h.type.toList == h'.type.toList
    · rw [q1] at HS1
      go_wp2_with fail
      go_meet
      case rel => exact ⟨by rw [HS1.out]; rfl, rfl⟩
    rw [q1] at HS1
    cases q2 : h.n == h'.n
    · rw [q2] at HS1
      have p2 : (h.n != h'.n) = true := by simp [bne, q2]
      clear q2
      go_wp2_with fail
      go_meet
      case rel => exact ⟨by rw [HS1.out]; rfl, rfl⟩
    rw [q2] at HS1
    have p2 : (h.n != h'.n) = false := by simp [bne, q2]
    clear q2
    cases q3 : h.f == h'.f
    · rw [q3] at HS1
      have p3 : (h.f != h'.f) = true := by simp [bne, q3]
      clear q3
      go_wp2_with fail
      go_meet
      case rel => exact ⟨by rw [HS1.out]; rfl, rfl⟩
    rw [q3] at HS1
    have p3 : (h.f != h'.f) = false := by simp [bne, q3]
    clear q3
    cases q4 : h.s.toList == h'.s.toList
    · rw [q4] at HS1
      go_wp2_with fail
      go_meet
      case rel => exact ⟨by rw [HS1.out]; rfl, rfl⟩
    rw [q4] at HS1
    cases q5 : (k.len : Int) == (k'.len : Int)
    · rw [q5] at HS1
      have p5 : ((k.len : Int) != (k'.len : Int)) = true := by simp [bne, q5]
      clear q5
      go_wp2_with fail
      go_meet
      case rel => exact ⟨by rw [HS1.out]; rfl, rfl⟩
    rw [q5] at HS1
    have p5 : ((k.len : Int) != (k'.len : Int)) = false := by simp [bne, q5]
    clear q5
    cases q6 : (h.path.length : Int) == (h'.path.length : Int)
    · rw [q6] at HS1
      have p6 : ((h.path.length : Int) != (h'.path.length : Int)) = true := by simp [bne, q6]
      clear q6
      go_wp2_with fail
      go_meet
      case rel => exact ⟨by rw [HS1.out]; rfl, rfl⟩
    rw [q6] at HS1
    have p6 : ((h.path.length : Int) != (h'.path.length : Int)) = false := by simp [bne, q6]
    clear q6
    go_wp2_with fail
    go_meet
    case rel => exact ⟨by rw [HS1.out]; rfl, rfl⟩
  case rest =>
  obtain ⟨rfl, rfl⟩ := hcut
  cases hs1 : s1B h h' k.len k'.len
  · have HR : Hid (sameD h k h' k' = false) := Lib.hid (by rw [HSP.out, hs1]; rfl)
    clear hs1
    go_wp2_with fail
    go_ret
    exact ⟨ret_bool HR.out.symm, hbw⟩
  have hlens : k.len = k'.len ∧ h.path.length = h'.path.length := by
    unfold s1B at hs1
    simp only [Bool.and_eq_true, beq_iff_eq] at hs1
    omega
  have HLN := Lib.hid hlens
  rw [hs1] at HSP
  clear hs1 hlens
  go_upto_region 3 with fail
  go_cut [94] (fun t wx => t = .bool (!s2B h h') ∧ w0 = wx)
  case first =>
    have HS2 : Hid (s2B h h' = (h.obj == h'.obj && (h.frm == h'.frm && (h.len == h'.len && h.cap == h'.cap)))) := Lib.hid rfl
    cases q0 : h.obj == h'.obj
    · rw [q0] at HS2
      have p0 : (h.obj != h'.obj) = true := by simp [bne, q0]
      clear q0
      go_wp2_with fail
      go_meet
      case rel => exact ⟨by rw [HS2.out]; rfl, rfl⟩
    rw [q0] at HS2
    have p0 : (h.obj != h'.obj) = false := by simp [bne, q0]
    clear q0
    cases q1 : h.frm == h'.frm
    · rw [q1] at HS2
      have p1 : (h.frm != h'.frm) = true := by simp [bne, q1]
      clear q1
      go_wp2_with fail
      go_meet
      case rel => exact ⟨by rw [HS2.out]; rfl, rfl⟩
    rw [q1] at HS2
    have p1 : (h.frm != h'.frm) = false := by simp [bne, q1]
    clear q1
    cases q2 : h.len == h'.len
    · rw [q2] at HS2
      have p2 : (h.len != h'.len) = true := by simp [bne, q2]
      clear q2
      go_wp2_with fail
      go_meet
      case rel => exact ⟨by rw [HS2.out]; rfl, rfl⟩
    rw [q2] at HS2
    have p2 : (h.len != h'.len) = false := by simp [bne, q2]
    clear q2
    cases q3 : h.cap == h'.cap
    · rw [q3] at HS2
      have p3 : (h.cap != h'.cap) = true := by simp [bne, q3]
      clear q3
      go_wp2_with fail
      go_meet
      case rel => exact ⟨by rw [HS2.out]; rfl, rfl⟩
    rw [q3] at HS2
    have p3 : (h.cap != h'.cap) = false := by simp [bne, q3]
    clear q3
    go_wp2_with fail
    go_meet
    case rel => exact ⟨by rw [HS2.out]; rfl, rfl⟩
  case rest =>
  obtain ⟨rfl, rfl⟩ := hcut
  cases hs2 : s2B h h'
  · have HR : Hid (sameD h k h' k' = false) := Lib.hid (by rw [HSP.out, hs2]; rfl)
    clear hs2
    go_wp2_with fail
    go_ret
    exact ⟨ret_bool HR.out.symm, hbw⟩
  have HR : Hid (sameD h k h' k' = (decide (h.path = h'.path) && sameF k k')) := Lib.hid (by rw [HSP.out, hs2]; rfl)
  clear hs2
  have hpl := ho.path
  have HA := Lib.hid hA
  have HB := Lib.hid hB
  have HD1 := Lib.hid hd
  have HD2 := Lib.hid hd'
  have HIH := Lib.hid ih
  clear c0 c1 c2 c3 c4 c5 c6 c7 c8 c9 c10 d0 d1 d2 d3 d4 d5 d6 d7 d8 d9 d10 hA hB hd hd' ih HSP
  go_wp2_with fail
  go_loopg [5] h.path.length (fun g i wr => ∃ j : Nat, j ≤ h.path.length ∧ i = .int .i64 j ∧ g = h.path.length - j ∧ Below w.heap.size w wr ∧ Blk wr w.heap.size 28 (h.cells pa pc ia k.len ic) ∧ Blk wr (w.heap.size + 1) 28 (h'.cells pa' pc' ia' k'.len ic') ∧ Hid (decide (h.path = h'.path) = decide (h.path.drop j = h'.path.drop j)))
  case atStart => exact ⟨0, by omega, rfl, by omega, hbw, HA.out, HB.out, by unfold Hid; simp⟩
  case round =>
  obtain ⟨j, hj, rfl, rfl, hbr, hA, hB, HN⟩ := hrel
  obtain ⟨c0, c1, c2, c3, c4, c5, c6, c7, c8, c9, c10⟩ := (CellsAt.of_blk hA).box
  obtain ⟨d0, d1, d2, d3, d4, d5, d6, d7, d8, d9, d10⟩ := (CellsAt.of_blk hB).box
  by_cases hlt : j < h.path.length
  · obtain ⟨x, hx⟩ : ∃ x, h.path[j]? = some x := ⟨_, List.getElem?_eq_getElem hlt⟩
    obtain ⟨y, hy⟩ : ∃ y, h'.path[j]? = some y := ⟨_, List.getElem?_eq_getElem (by have := HLN.out.2; omega)⟩
    obtain ⟨pb, po, rfl, _, hc1⟩ := (HD1.out.below hbr (fun b _ h => h)).path.get hx
    obtain ⟨qb, qo, rfl, _, hc2⟩ := (HD2.out.below hbr (fun b _ h => h)).path.get hy
    have HS : Hid (decide (h.path.drop j = h'.path.drop j) = ((x == y) && decide (h.path.drop (j + 1) = h'.path.drop (j + 1)))) := Lib.hid (drop_dec2 hx hy)
    have hj0 : (j : Int) < (h.path.length : Int) := by omega
    have hj2 : (j : Int) < (h'.path.length : Int) := by have := HLN.out.2; omega
    clear hx hy
    cases q : x == y
    · rw [q] at HS
      have p : (x != y) = true := by simp [bne, q]
      clear q
      go_wp2_with fail
      go_quiet (fail)
      go_wp2_with fail
      go_ret
      exact ⟨ret_bool (by rw [HR.out, HN.out, HS.out]; rfl), by ((repeat' (first | exact Below.refl _ _ | assumption | (refine bl_alloc ?_ _) | (refine Below.drew ?_) | (refine below_drewN ?_ _) | (refine Below.setCell ?_ ?_ _) | (refine bl_trans ?_ (by assumption)))) <;> first | omega | (simp; done) | (simp; omega))⟩
    · rw [q] at HS
      have p : (x != y) = false := by simp [bne, q]
      clear q
      go_wp2_with fail
      go_quiet (fail)
      go_wp2_with fail
      go_roundg (h.path.length - (j + 1))
      case measure => omega
      case rel => exact ⟨j + 1, by omega, by go_num, rfl, by ((repeat' (first | exact Below.refl _ _ | assumption | (refine bl_alloc ?_ _) | (refine Below.drew ?_) | (refine below_drewN ?_ _) | (refine Below.setCell ?_ ?_ _) | (refine bl_trans ?_ (by assumption)))) <;> first | omega | (simp; done) | (simp; omega)), hA.drewN _, hB.drewN _, by unfold Hid; rw [HN.out, HS.out]; rfl⟩
  have hjl : h.path.length ≤ j := by omega
  have HRF : Hid (sameD h k h' k' = sameF k k') := Lib.hid (by
    rw [HR.out, HN.out, List.drop_of_length_le hjl, List.drop_of_length_le (by have := HLN.out.2; omega)]; simp)
  have hjn : (h.path.length : Int) ≤ (j : Int) := by omega
  have HA2 := Lib.hid hA
  have HB2 := Lib.hid hB
  clear HR HN hlt hjl HA HB
  go_upto_region 10 with fail
  clear c0 c1 c2 c3 c4 c5 c6 c7 c8 c9 c10 d0 d1 d2 d3 d4 d5 d6 d7 d8 d9 d10 hA hB
  go_wp2_with fail
  go_loopg [6] k.len (fun g i wr => ∃ t : Nat, t ≤ k.len ∧ i = .int .i64 t ∧ g = k.len - t ∧ Below w.heap.size w wr ∧ Blk wr w.heap.size 28 (h.cells pa pc ia k.len ic) ∧ Blk wr (w.heap.size + 1) 28 (h'.cells pa' pc' ia' k'.len ic') ∧ Hid (sameF k k' = sameF (k.drop t) (k'.drop t)))
  case atStart => exact ⟨0, by omega, rfl, by omega, hbr, HA2.out, HB2.out, by unfold Hid; simp⟩
  case round =>
  obtain ⟨t, ht, rfl, rfl, hbs, hA, hB, HN⟩ := hrel
  by_cases hlt : t < k.len
  · obtain ⟨c0, c1, c2, c3, c4, c5, c6, c7, c8, c9, c10⟩ := (CellsAt.of_blk hA).boxrg
    obtain ⟨d0, d1, d2, d3, d4, d5, d6, d7, d8, d9, d10⟩ := (CellsAt.of_blk hB).boxrg
    have x10 := (CellsAt.of_blk hA).box.2.2.2.2.2.2.2.2.2.2
    obtain ⟨h1, k1, hg1⟩ := Fo.get_lt k t hlt
    obtain ⟨h2, k2, hg2⟩ := Fo.get_lt k' t (by have := HLN.out.1; omega)
    have hk1 : SlAt _ S ia k := (HD1.out.below hbs (fun b _ h => h)).kids
    have hk2 : SlAt _ T ia' k' := (HD2.out.below hbs (fun b _ h => h)).kids
    obtain ⟨b1, o1, rfl, _, pa1, pc1, ia1, ic1, hcs1, hda1⟩ := hk1.get hg1
    obtain ⟨b2, o2, rfl, _, pa2, pc2, ia2, ic2, hcs2, hda2⟩ := hk2.get hg2
    obtain ⟨m0, m1, m2, m3, m4, m5, m6, m7, m8, m9, m10⟩ := hcs1.rg
    obtain ⟨n0, n1, n2, n3, n4, n5, n6, n7, n8, n9, n10⟩ := hcs2.rg
    have hI := fun d os => HIH.out t h1 k1 h2 k2 hg1 hg2 (grow (redrawn wr d) os) S T pa1 pc1 ia1 ic1 pa2 pc2 ia2 ic2 (hda1.below (below_regrown wr d os) (fun b _ h => h)) (hda2.below (below_regrown wr d os) (fun b _ h => h))
    have HDr : Hid (sameF (k.drop t) (k'.drop t) = (sameD h1 k1 h2 k2 && sameF (k.drop (t + 1)) (k'.drop (t + 1)))) := Lib.hid (by rw [Fo.drop_get k t h1 k1 hg1, Fo.drop_get k' t h2 k2 hg2]; rfl)
    obtain ⟨q1, hq1⟩ : ∃ q, sameD h1 k1 h2 k2 = q := ⟨_, rfl⟩
    rw [hq1] at hI HDr
    unfold Hd.cells at hI
    have HI := Lib.hid hI
    have hj0 : (t : Int) < (k.len : Int) := by omega
    have hj2 : (t : Int) < (k'.len : Int) := by have := HLN.out.1; omega
    have HLT := Lib.hid hlt
    clear hI hg1 hg2 hk1 hk2 hcs1 hcs2 hda1 hda2 hq1
    go_upto_region 13 with fail
    go_cut [7] (fun tt wx => tt = .bool q1 ∧ Below wr.heap.size wr wx)
    case first =>
      refine wp_region_below (by kernel_rfl) (by kernel_rfl) ?_
      repeat (go_big_quiet_step ((go_at_call 31; exact Calls.regrown_of (HI.out _ _))))
      refine wpQuiet_nil ?_
      intro w2 hb2
      go_wp2_with fail
      go_meet
      case rel => exact ⟨rfl, hb2⟩
    case rest =>
    obtain ⟨rfl, hb2⟩ := hcut
    obtain ⟨w2, rfl⟩ : ∃ w2 : World, w2 = wc := ⟨_, rfl⟩
    have hA2 := hA.below hb2 hA.lt
    have hB2 := hB.below hb2 hB.lt
    have hbw2 := bl_trans hbs hb2
    clear c0 c1 c2 c3 c4 c5 c6 c7 c8 c9 c10 d0 d1 d2 d3 d4 d5 d6 d7 d8 d9 d10 m0 m1 m2 m3 m4 m5 m6 m7 m8 m9 m10 n0 n1 n2 n3 n4 n5 n6 n7 n8 n9 n10 x10 HI hA hB hb2
    cases q1
    · go_wp2_with fail
      go_ret
      exact ⟨ret_bool (by rw [HRF.out, HN.out, HDr.out]; rfl), hbw2⟩
    · go_wp2_with fail
      go_roundg (k.len - (t + 1))
      case measure => omega
      case rel => exact ⟨t + 1, by have := HLT.out; omega, by go_num, rfl, hbw2, hA2, hB2, by unfold Hid; rw [HN.out, HDr.out]; rfl⟩
  · have htl : t = k.len := by omega
    have HR : Hid (sameD h k h' k' = true) := Lib.hid (by
      rw [HRF.out, HN.out, Fo.drop_len k _ (by omega), Fo.drop_len k' _ (by have := HLN.out.1; omega)]; rfl)
    subst htl
    obtain ⟨c0, c1, c2, c3, c4, c5, c6, c7, c8, c9, c10⟩ := (CellsAt.of_blk hA).box
    go_wp2_with fail
    go_ret
    exact ⟨ret_bool HR.out.symm, hbs⟩
theorem rsame_all : ∀ (f : Fo), f.ok → ∀ (g : Fo) (i : Nat) (a : Hd) (b : Fo) (a' : Hd) (b' : Fo), g.ok → f.get i = some (a, b) → g.get i = some (a', b') → RSameC a b a' b'
  | .nil, _, g, i, a, b, a', b', _, e, _ => by simp [Fo.get] at e
  | .cons h k r, o, g, 0, a, b, a', b', og, e, e' => by
    simp only [Fo.get, Option.some.injEq, Prod.mk.injEq] at e
    obtain ⟨rfl, rfl⟩ := e
    obtain ⟨o1, o2, _⟩ := Fo.ok_get g 0 a' b' og e'
    exact rsame_one _ _ _ _ o.1 o1 o.2.2.2 (fun i c d c' d' e e' => rsame_all k o.2.1 b' i c d c' d' o2 e e')
  | .cons h k r, o, .nil, i + 1, a, b, a', b', og, e, e' => by simp [Fo.get] at e'
  | .cons h k r, o, .cons h2 k2 r2, i + 1, a, b, a', b', og, e, e' => rsame_all r o.2.2.1 r2 i a b a' b' og.2.2.1 e e'
theorem rsame_any (h : Hd) (k : Fo) (h' : Hd) (k' : Fo) (ho : h.ok) (hk : k.ok) (hl : k.len ≤ 1034834473170) (ho' : h'.ok) (hk' : k'.ok) : RSameC h k h' k' :=
  rsame_one h k h' k' ho ho' hl (fun i a b a' b' e e' => rsame_all k hk k' i a b a' b' hk' e e')
end Go.Proofs.YthdmmhiifkebeaaDoor
