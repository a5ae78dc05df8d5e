/-
  Contracts of value.kindOf, slices.Equal at ints, value.equal, value.held. Contracts of slices.Clone (ints, data) and value.twin: a datum in new memory. Written by an AI agent.
-/
import Derived.Test.YtlhfickniegooaaDoorPk06
import Derived.Test.YtlhfickniegooaaDoorPk07
import Derived.Test.YtlhfickniegooaaDoorPk01
import Derived.BigQuiet
import Derived.Deep.QuietTactic
import Derived.Deep.DeepCutAuto
import Derived.Deep.RegionWith
import Derived.Laws.StructEq
import Derived.Maps.AppendAt
import Derived.OwnWalk
import Derived.Lib.LazyBuf
import Derived.Deep.RegionHeld3
namespace Go.Proofs.YtlhfickniegooaaDoor
open Go.RowKit Go.Sort

set_option maxHeartbeats 400000 in
theorem kindOf_any (h : Hd) (k : Nat) (pa : Option Addr) (pc : Nat) (ia : Option Addr) (ic : Nat) (w : World) :
    Calls Tryd.prog 54 #[.agg (h.cells pa pc ia k ic)] w fun e w' => e = .returned (.agg #[.int .i64 h.kind, .string h.type]) ∧ Below w.heap.size w w' := by
  unfold Hd.cells
  go_enter Tryd.func54, Tryd.ntmps54
  go_wp2_with fail
  exact bodyPost_ret (v := .agg #[.int .i64 h.kind, .string h.type]) (by simp [results, Tryd.results54, go_sem]) rfl ⟨rfl, by ((repeat' (first | exact Below.refl _ _ | assumption | (refine bl_alloc ?_ _) | (refine Below.drew ?_) | (refine below_drewN ?_ _) | (refine Below.setCell ?_ ?_ _) | (refine bl_trans ?_ (by assumption)))) <;> first | omega | (simp; done) | (simp; omega))⟩

set_option maxHeartbeats 800000 in
theorem sEqual_any (l m : List Int) (pa qa : Option Addr) (pc qc : Nat) (w : World) (S T : Nat → Prop) (hl : l.length ≤ 9223372036854775807) (_hm : m.length ≤ 9223372036854775807) (hp : PathAt w S pa l) (hq : PathAt w T qa m) :
    Calls Tryd.prog 56 #[.slice pa l.length pc, .slice qa m.length qc] w fun e w' => e = .returned (.bool (decide (l = m))) ∧ Below w.heap.size w w' := by
  by_cases hlm : l.length = m.length
  · have hne : ((l.length : Int) != (m.length : Int)) = false := by simp [hlm]
    have HLM := Lib.hid hlm
    clear hlm
    go_enter Tryd.func56, Tryd.ntmps56
    go_wp2_with fail
    go_loopg [13] l.length (fun g i wr => ∃ (k n : Nat), k ≤ l.length ∧ i = .int .i64 k ∧ g = l.length - k ∧ wr = w.drewN n ∧ ∀ j, j < k → l[j]? = m[j]?)
    case atStart => exact ⟨0, 0, by omega, rfl, by omega, rfl, by omega⟩
    case round =>
      obtain ⟨k, n, hk, rfl, rfl, rfl, hn⟩ := hrel
      have HN := Lib.hid hn
      clear hn
      by_cases hlt : k < l.length
      · obtain ⟨x, hx⟩ : ∃ x, l[k]? = some x := ⟨_, List.getElem?_eq_getElem hlt⟩
        have hlt2 : k < m.length := by rw [← HLM.out]; exact hlt
        obtain ⟨y, hy⟩ : ∃ y, m[k]? = some y := ⟨_, List.getElem?_eq_getElem hlt2⟩
        obtain ⟨b, o, rfl, _, hc⟩ := hp.get hx
        obtain ⟨b2, o2, rfl, _, hc2⟩ := hq.get hy
        have HX := Lib.hid hx
        have HY := Lib.hid hy
        clear hx hy
        have hk0 : (0 : Int) ≤ (k : Int) := by omega
        have hk1 : (k : Int) < (l.length : Int) := by omega
        have hk2 : (k : Int) < (m.length : Int) := by omega
        go_wp2_with fail
        go_quiet (fail)
        go_wp2_with fail
        · go_ret
          have hxy : x ≠ y := by simpa using ‹(x != y) = true›
          refine ⟨ret_bool (decide_eq_false fun e => hxy ?_).symm, by ((repeat' (first | exact Below.refl _ _ | assumption | (refine bl_alloc ?_ _) | (refine Below.drew ?_) | (refine below_drewN ?_ _) | (refine Below.setCell ?_ ?_ _) | (refine bl_trans ?_ (by assumption)))) <;> first | omega | (simp; done) | (simp; omega))⟩
          have h1 := HX.out
          rw [e, HY.out] at h1
          injection h1 with h1
          exact h1.symm
        · go_roundg (l.length - (k + 1))
          case measure => omega
          case rel =>
            have hxy : x = y := by simpa using ‹(x != y) = false›
            refine ⟨k + 1, _, by omega, by go_num, rfl, rfl, fun j hj => ?_⟩
            by_cases hjk : j = k
            · subst hjk; rw [HX.out, HY.out, hxy]
            · exact HN.out j (by omega)
      · have hkl : k = l.length := by omega
        subst hkl
        go_wp2_with fail
        go_ret
        refine ⟨ret_bool (decide_eq_true ?_).symm, below_drewN (Below.refl _ _) _⟩
        exact List.ext_getElem? fun j => by
          rcases Nat.lt_or_ge j l.length with hj | hj
          · exact HN.out j hj
          · rw [List.getElem?_eq_none hj, List.getElem?_eq_none (by rw [← HLM.out]; exact hj)]
  · have hne : ((l.length : Int) != (m.length : Int)) = true := by rw [bne_iff_ne]; omega
    have HLM := Lib.hid hlm
    clear hlm
    go_enter Tryd.func56, Tryd.ntmps56
    go_wp2_with fail
    go_ret
    exact ⟨ret_bool (decide_eq_false fun e => HLM.out (by rw [e])).symm, Below.refl _ _⟩

def emp : ByteArray := ⟨#[]⟩
/-- Are two of one type? -/
def oneB (h h' : Hd) : Bool := decide (h.kind = h'.kind ∧ h.type = h'.type)
/-- What value.equal answers of two of one type that are no structs. -/
def equalH (h h' : Hd) : Bool × ByteArray :=
  if h.kind = 3 then (feqB h.f.toNat h'.f.toNat, emp)
  else if h.kind = 5 ∨ h.kind = 6 ∨ h.kind = 7 then (false, h.type)
  else if h.kind = 9 then (decide (h.obj = h'.obj ∧ h.path = h'.path), emp)
  else (decide (h.n = h'.n ∧ h.s = h'.s), emp)
def equalF : Fo → Fo → Bool × ByteArray
  | .cons h k r, .cons h' k' r' =>
    if (if oneB h h' = false then (false, emp) else if h.kind = 8 then (if k.len ≠ k'.len then (false, emp) else equalF k k') else equalH h h').1 = true then equalF r r'
    else (false, (if oneB h h' = false then (false, emp) else if h.kind = 8 then (if k.len ≠ k'.len then (false, emp) else equalF k k') else equalH h h').2)
  | _, _ => (true, emp)
def equalD (h : Hd) (k : Fo) (h' : Hd) (k' : Fo) : Bool × ByteArray := if oneB h h' = false then (false, emp) else if h.kind = 8 then (if k.len ≠ k'.len then (false, emp) else equalF k k') else equalH h h'
theorem equalF_cons (h : Hd) (k r : Fo) (h' : Hd) (k' r' : Fo) : equalF (.cons h k r) (.cons h' k' r') = if (equalD h k h' k').1 = true then equalF r r' else (false, (equalD h k h' k').2) := by
  rw [equalF]; rfl

def EqualC (h : Hd) (k : Fo) (h' : Hd) (k' : Fo) : Prop := ∀ (w : World) (S T : Nat → Prop) (pa : Option Addr) (pc : Nat) (ia : Option Addr) (ic : Nat) (pa' : Option Addr) (pc' : Nat) (ia' : Option Addr) (ic' : Nat),
  DatAt w S h k pa pc ia ic → DatAt w T h' k' pa' pc' ia' ic' →
  Calls Tryd.prog 38 #[.agg (h.cells pa pc ia k.len ic), .agg (h'.cells pa' pc' ia' k'.len ic')] w fun e w' => e = .returned (.tuple #[.bool (equalD h k h' k').1, .string (equalD h k h' k').2]) ∧ Below w.heap.size w w'

theorem neqKind (h h' : Hd) (w : World) : (binOp .neq 137 (.agg #[.int .i64 h.kind, .string h.type]) (.agg #[.int .i64 h'.kind, .string h'.type])).run Tryd.prog w = .ok (.bool (!oneB h h')) w := by
  have e : oneB h h' = decide (h.kind = h'.kind ∧ h.type.toList = h'.type.toList) := by
    unfold oneB
    rw [decide_eq_decide]
    exact ⟨fun ⟨a, b⟩ => ⟨a, by rw [b]⟩, fun ⟨a, b⟩ => ⟨a, str_eq (by simpa using b)⟩⟩
  rw [e]
  simp [go_sem, Tryd.underlying137]
  by_cases h1 : h.kind = h'.kind <;> by_cases h2 : h.type.toList = h'.type.toList <;> simp [h1, h2]

set_option maxRecDepth 100000 in
set_option maxHeartbeats 4000000 in
theorem equal_one (h : Hd) (k : Fo) (h' : Hd) (k' : Fo) (ho : h.ok) (_hk : k.ok) (ho' : h'.ok) (_hk' : k'.ok) (ih : ∀ i a b a' b', k.get i = some (a, b) → k'.get i = some (a', b') → EqualC a b a' b') : EqualC h k h' k' := by
  intro w S T pa pc ia ic pa' pc' ia' ic' hd hd'
  unfold Hd.cells
  go_enter Tryd.func38, Tryd.ntmps38
  go_upto_region 0 with fail
  go_cut [0, 1, 2, 3] (fun _ _ t2 t3 wx => t2 = .pointer (some ⟨w.heap.size, 0, none⟩) ∧ t3 = .pointer (some ⟨w.heap.size + 1, 0, none⟩) ∧ Blk wx w.heap.size 31 (h.cells pa pc ia k.len ic) ∧ Blk wx (w.heap.size + 1) 31 (h'.cells pa' pc' ia' k'.len ic') ∧ Below w.heap.size w wx)
  case first =>
    go_wp2_with fail
    go_meet
    case rel => exact ⟨rfl, rfl, (Blk.new _ _ _).alloc _, Blk.new1 _ _ _ _, by ((repeat' (first | exact Below.refl _ _ | assumption | (refine bl_alloc ?_ _) | (refine Below.drew ?_) | (refine below_drewN ?_ _) | (refine Below.setCell ?_ ?_ _) | (refine bl_trans ?_ (by assumption)))) <;> first | omega | (simp; done) | (simp; omega))⟩
  case rest =>
    obtain ⟨rfl, rfl, hA, hB, hbw⟩ := hcut
    obtain ⟨k0, k1, k2, k3, k4, k5, k6, k7, k8, k9, k10⟩ := (CellsAt.of_blk hA).boxrg
    obtain ⟨l0, l1, l2, l3, l4, l5, l6, l7, l8, l9, l10⟩ := (CellsAt.of_blk hB).boxrg
    obtain ⟨w0, rfl⟩ : ∃ w0 : World, w0 = wc := ⟨_, rfl⟩
    have hnk := neqKind h h'
    go_upto_region 1 with fail
    go_cut [13] (fun t wx => t = .bool (!oneB h h') ∧ Below w0.heap.size w0 wx)
    case first =>
      as_aux_lemma =>
        refine wp_region_below (by kernel_rfl) (by kernel_rfl) ?_
        repeat (quiet_step ((first | (go_at_call_of 54 (Value.string h.type); exact Calls.regrown_of (kindOf_any h k.len pa pc ia ic _)) | (go_at_call_of 54 (Value.string h'.type); exact Calls.regrown_of (kindOf_any h' k'.len pa' pc' ia' ic' _)))))
        refine wpQuiet_nil ?_
        intro w1 hb1
        go_wp2_with fail
        go_meet
        case rel => exact ⟨rfl, hb1⟩
    case rest =>
    obtain ⟨rfl, hb1⟩ := hcut
    obtain ⟨w1, rfl⟩ : ∃ w1 : World, w1 = wc := ⟨_, rfl⟩
    have hbw1 := hbw.trans (hb1.mono hbw.size)
    by_cases hone : oneB h h' = false
    · have HD : Hid (equalD h k h' k' = (false, emp)) := by unfold Hid equalD; rw [if_pos hone]
      rw [show (!oneB h h') = true by rw [hone]; rfl]
      clear hone hnk
      go_wp2_with fail
      go_ret2
      rw [HD.out]
      exact ⟨rfl, hbw1⟩
    have hone' : oneB h h' = true := by simpa using hone
    have HD : Hid (equalD h k h' k' = if h.kind = 8 then (if k.len ≠ k'.len then (false, emp) else equalF k k') else equalH h h') := by unfold Hid equalD; rw [if_neg hone]
    rw [show (!oneB h h') = false by rw [hone']; rfl]
    have hlA := hA.lt
    have hlB := hB.lt
    have hA1 := hA.below hb1 hlA
    have hB1 := hB.below hb1 hlB
    have hd1 := hd.below (hbw.trans (hb1.mono hbw.size)) (fun b _ h => h)
    have hd1' := hd'.below (hbw.trans (hb1.mono hbw.size)) (fun b _ h => h)
    clear k0 k1 k2 k3 k4 k5 k6 k7 k8 k9 k10 l0 l1 l2 l3 l4 l5 l6 l7 l8 l9 l10 hone hone' hnk hA hB hb1 hbw hd hd' hlA hlB
    obtain ⟨c0, c1, c2, c3, c4, c5, c6, c7, c8, c9, c10⟩ := (CellsAt.of_blk hA1).box
    obtain ⟨d0, d1, d2, d3, d4, d5, d6, d7, d8, d9, d10⟩ := (CellsAt.of_blk hB1).box
    have hpl : h.path.length ≤ 9223372036854775807 := Nat.le_trans ho.path (by decide)
    have hpl' : h'.path.length ≤ 9223372036854775807 := Nat.le_trans ho'.path (by decide)
    have hkl : k.len ≤ 9223372036854775807 := Nat.le_trans hd1.icLe hd1.icMax
    have hkl' : k'.len ≤ 9223372036854775807 := Nat.le_trans hd1'.icLe hd1'.icMax
    by_cases q3 : h.kind = 3
    · as_aux_lemma =>
        obtain ⟨k0, k1, k2, k3, k4, k5, k6, k7, k8, k9, k10⟩ := (CellsAt.of_blk hA1).boxrg
        obtain ⟨l0, l1, l2, l3, l4, l5, l6, l7, l8, l9, l10⟩ := (CellsAt.of_blk hB1).boxrg
        have HE : Hid (equalD h k h' k' = (feqB h.f.toNat h'.f.toNat, emp)) := by unfold Hid; rw [HD.out, if_neg (by omega)]; unfold equalH; rw [if_pos q3]
        clear HD
        have hf1 := fromBits h.f
        have hf2 := fromBits h'.f
        have hf3 := feq h.f.toNat h'.f.toNat
        go_wp2_with fail
        refine wp_region_below (by kernel_rfl) (by kernel_rfl) ?_
        repeat (quiet_step ((fail)))
        refine wpQuiet_nil ?_
        intro w2 hb2
        go_wp2_with fail
        go_ret2
        rw [HE.out]
        exact ⟨rfl, by ((repeat' (first | exact Below.refl _ _ | assumption | (refine bl_alloc ?_ _) | (refine Below.drew ?_) | (refine below_drewN ?_ _) | (refine Below.setCell ?_ ?_ _) | (refine bl_trans ?_ (by assumption)))) <;> first | omega | (simp; done) | (simp; omega))⟩
    by_cases q5 : h.kind = 5 ∨ h.kind = 6 ∨ h.kind = 7
    · as_aux_lemma =>
        obtain ⟨k0, k1, k2, k3, k4, k5, k6, k7, k8, k9, k10⟩ := (CellsAt.of_blk hA1).boxrg
        have HE : Hid (equalD h k h' k' = (false, h.type)) := by unfold Hid; rw [HD.out, if_neg (by omega)]; unfold equalH; rw [if_neg q3, if_pos q5]
        clear HD q3
        rcases q5 with q5 | q5 | q5
        all_goals
          go_wp2_with fail
          refine wp_region_below (by kernel_rfl) (by kernel_rfl) ?_
          repeat (quiet_step ((fail)))
          refine wpQuiet_nil ?_
          intro w2 hb2
          go_wp2_with fail
          go_ret2
          rw [HE.out]
          exact ⟨rfl, by ((repeat' (first | exact Below.refl _ _ | assumption | (refine bl_alloc ?_ _) | (refine Below.drew ?_) | (refine below_drewN ?_ _) | (refine Below.setCell ?_ ?_ _) | (refine bl_trans ?_ (by assumption)))) <;> first | omega | (simp; done) | (simp; omega))⟩
    by_cases q9 : h.kind = 9
    · as_aux_lemma =>
        have HE : Hid (equalD h k h' k' = (decide (h.obj = h'.obj ∧ h.path = h'.path), emp)) := by unfold Hid; rw [HD.out, if_neg (by omega)]; unfold equalH; rw [if_neg q3, if_neg q5, if_pos q9]
        clear HD q3 q5
        by_cases qo : h.obj = h'.obj
        · have qob : (h.obj == h'.obj) = true := by simpa using qo
          have HO := Lib.hid qo
          clear qo
          go_wp2_with (go_at_call 56; refine (sEqual_any h.path h'.path pa pa' pc pc' w1 S T hpl hpl' hd1.path hd1'.path).mono ?_; rintro e w2 ⟨rfl, hb2⟩)
          go_ret2
          rw [HE.out]
          exact ⟨by simp [HO.out, emp], by ((repeat' (first | exact Below.refl _ _ | assumption | (refine bl_alloc ?_ _) | (refine Below.drew ?_) | (refine below_drewN ?_ _) | (refine Below.setCell ?_ ?_ _) | (refine bl_trans ?_ (by assumption)))) <;> first | omega | (simp; done) | (simp; omega))⟩
        · have qob : (h.obj == h'.obj) = false := by simpa using qo
          have HO := Lib.hid qo
          clear qo
          go_wp2_with fail
          go_ret2
          rw [HE.out]
          exact ⟨by simp [HO.out, emp], by ((repeat' (first | exact Below.refl _ _ | assumption | (refine bl_alloc ?_ _) | (refine Below.drew ?_) | (refine below_drewN ?_ _) | (refine Below.setCell ?_ ?_ _) | (refine bl_trans ?_ (by assumption)))) <;> first | omega | (simp; done) | (simp; omega))⟩
    by_cases q8 : h.kind = 8
    · rw [if_pos q8] at HD
      clear q3 q5 q9 c1 c2 c3 c4 c5 c6 c7 c8 c9 d1 d2 d3 d4 d5 d6 d7 d8 d9
      by_cases ql : k.len = k'.len
      · have qlb : ((k.len : Int) != (k'.len : Int)) = false := by simp [ql]
        have HE : Hid (equalD h k h' k' = equalF k k') := by unfold Hid; rw [HD.out, if_neg (by simp [ql])]
        have HLQ := Lib.hid ql
        clear HD ql
        go_wp2_with fail
        go_loopg [61] k.len (fun g i wr => ∃ j : Nat, j ≤ k.len ∧ i = .int .i64 j ∧ g = k.len - j ∧ Below w.heap.size w wr ∧ Below w1.heap.size w1 wr ∧ equalF k k' = equalF (k.drop j) (k'.drop j))
        case atStart => exact ⟨0, by omega, rfl, by omega, hbw1, Below.refl _ _, by simp⟩
        case round =>
          obtain ⟨j, hj, rfl, rfl, hg, hg1, hn⟩ := hrel
          have HN := Lib.hid hn
          clear hn c0 c10 d0 d10
          have hA2 := hA1.below hg1 hA1.lt
          have hB2 := hB1.below hg1 hB1.lt
          have hd2 := hd1.below hg1 (fun b _ h => h)
          have hd2' := hd1'.below hg1 (fun b _ h => h)
          by_cases hlt : j < k.len
          · obtain ⟨a, b, hget⟩ := Fo.get_lt k j hlt
            obtain ⟨a', b', hget'⟩ := Fo.get_lt k' j (by rw [← HLQ.out]; exact hlt)
            obtain ⟨g1, o1, rfl, _, qa, qc, ja, jc, hcs, hda⟩ := hd2.kids.get hget
            obtain ⟨g2, o2, rfl, _, qa', qc', ja', jc', hcs', hda'⟩ := hd2'.kids.get hget'
            have HDr := Lib.hid (Fo.drop_get k j a b hget)
            have HDr' := Lib.hid (Fo.drop_get k' j a' b' hget')
            have hih := fun d os => ih j a b a' b' hget hget' (grow (redrawn wr d) os) S T qa qc ja jc qa' qc' ja' jc' (hda.below (below_regrown wr d os) (fun b _ h => h)) (hda'.below (below_regrown wr d os) (fun b _ h => h))
            unfold Hd.cells at hih
            have HI := Lib.hid hih
            obtain ⟨_, _, _, _, _, _, _, _, _, _, k10⟩ := (CellsAt.of_blk hA2).boxrg
            obtain ⟨_, _, _, _, _, _, _, _, _, _, l10⟩ := (CellsAt.of_blk hB2).boxrg
            obtain ⟨m0, m1, m2, m3, m4, m5, m6, m7, m8, m9, m10⟩ := hcs.rg
            obtain ⟨n0, n1, n2, n3, n4, n5, n6, n7, n8, n9, n10⟩ := hcs'.rg
            have hj0 : (0 : Int) ≤ (j : Int) := by omega
            have hj1 : (j : Int) < (k.len : Int) := by omega
            have hj2 : (j : Int) < (k'.len : Int) := by have := HLQ.out; omega
            clear hih hget hget' hcs hcs' hda hda'
            go_wp2_with fail
            refine wp_region_below (by kernel_rfl) (by kernel_rfl) ?_
            repeat (quiet_step ((exact Calls.regrown_of (HI.out _ _))))
            refine wpQuiet_nil ?_
            intro w2 hb2
            by_cases hr : (equalD a b a' b').1 = true
            · have HR := Lib.hid hr
              rw [hr]
              clear hr
              have hs2 := hg.size
              have hs3 := hg1.size
              go_wp2_with fail
              go_roundg (k.len - (j + 1))
              case measure => omega
              case rel => exact ⟨j + 1, by omega, by go_num, rfl, by ((repeat' (first | exact Below.refl _ _ | assumption | (refine bl_alloc ?_ _) | (refine Below.drew ?_) | (refine below_drewN ?_ _) | (refine Below.setCell ?_ ?_ _) | (refine bl_trans ?_ (by assumption)))) <;> first | omega | (simp; done) | (simp; omega)), by ((repeat' (first | exact Below.refl _ _ | assumption | (refine bl_alloc ?_ _) | (refine Below.drew ?_) | (refine below_drewN ?_ _) | (refine Below.setCell ?_ ?_ _) | (refine bl_trans ?_ (by assumption)))) <;> first | omega | (simp; done) | (simp; omega)), by rw [HN.out, HDr.out, HDr'.out, equalF_cons, if_pos HR.out]⟩
            · have hr' : (equalD a b a' b').1 = false := by simpa using hr
              have HR := Lib.hid hr'
              rw [hr']
              clear hr hr'
              go_wp2_with fail
              go_ret2
              have e : equalD h k h' k' = (false, (equalD a b a' b').2) := by rw [HE.out, HN.out, HDr.out, HDr'.out, equalF_cons, if_neg (by rw [HR.out]; simp)]
              rw [e]
              exact ⟨rfl, by ((repeat' (first | exact Below.refl _ _ | assumption | (refine bl_alloc ?_ _) | (refine Below.drew ?_) | (refine below_drewN ?_ _) | (refine Below.setCell ?_ ?_ _) | (refine bl_trans ?_ (by assumption)))) <;> first | omega | (simp; done) | (simp; omega))⟩
          · have hjl : j = k.len := by omega
            subst hjl
            go_wp2_with fail
            go_ret2
            have e : equalD h k h' k' = (true, emp) := by rw [HE.out, HN.out, Fo.drop_len k _ (Nat.le_refl _)]; rfl
            rw [e]
            exact ⟨rfl, by ((repeat' (first | exact Below.refl _ _ | assumption | (refine bl_alloc ?_ _) | (refine Below.drew ?_) | (refine below_drewN ?_ _) | (refine Below.setCell ?_ ?_ _) | (refine bl_trans ?_ (by assumption)))) <;> first | omega | (simp; done) | (simp; omega))⟩
      · as_aux_lemma =>
          have qlb : ((k.len : Int) != (k'.len : Int)) = true := by rw [bne_iff_ne]; omega
          have HE : Hid (equalD h k h' k' = (false, emp)) := by unfold Hid; rw [HD.out, if_pos ql]
          clear HD ql
          go_wp2_with fail
          go_ret2
          rw [HE.out]
          exact ⟨rfl, by ((repeat' (first | exact Below.refl _ _ | assumption | (refine bl_alloc ?_ _) | (refine Below.drew ?_) | (refine below_drewN ?_ _) | (refine Below.setCell ?_ ?_ _) | (refine bl_trans ?_ (by assumption)))) <;> first | omega | (simp; done) | (simp; omega))⟩
    · as_aux_lemma =>
        have HE : Hid (equalD h k h' k' = (decide (h.n = h'.n ∧ h.s = h'.s), emp)) := by unfold Hid; rw [HD.out, if_neg q8]; unfold equalH; rw [if_neg q3, if_neg q5, if_neg q9]
        have q30 : (h.kind == 3) = false := by simpa using q3
        have q50 : (h.kind == 5) = false := by rw [beq_eq_false_iff_ne]; omega
        have q60 : (h.kind == 6) = false := by rw [beq_eq_false_iff_ne]; omega
        have q70 : (h.kind == 7) = false := by rw [beq_eq_false_iff_ne]; omega
        have q80 : (h.kind == 8) = false := by simpa using q8
        have q90 : (h.kind == 9) = false := by simpa using q9
        clear HD q3 q5 q8 q9
        by_cases qo : h.n = h'.n
        · have qob : (h.n == h'.n) = true := by simpa using qo
          have HO := Lib.hid qo
          clear qo
          go_wp2_with fail
          go_ret2
          rw [HE.out]
          exact ⟨by simp [HO.out, emp, beq_str], by ((repeat' (first | exact Below.refl _ _ | assumption | (refine bl_alloc ?_ _) | (refine Below.drew ?_) | (refine below_drewN ?_ _) | (refine Below.setCell ?_ ?_ _) | (refine bl_trans ?_ (by assumption)))) <;> first | omega | (simp; done) | (simp; omega))⟩
        · have qob : (h.n == h'.n) = false := by simpa using qo
          have HO := Lib.hid qo
          clear qo
          go_wp2_with fail
          go_ret2
          rw [HE.out]
          exact ⟨by simp [HO.out, emp], by ((repeat' (first | exact Below.refl _ _ | assumption | (refine bl_alloc ?_ _) | (refine Below.drew ?_) | (refine below_drewN ?_ _) | (refine Below.setCell ?_ ?_ _) | (refine bl_trans ?_ (by assumption)))) <;> first | omega | (simp; done) | (simp; omega))⟩

theorem equal_all : ∀ (f : Fo), f.ok → ∀ (g : Fo) (i : Nat) (a : Hd) (b : Fo) (a' : Hd) (b' : Fo), g.ok → f.get i = some (a, b) → g.get i = some (a', b') → EqualC a b a' b'
  | .nil, _, g, i, a, b, a', b', _, e, _ => by simp [Fo.get] at e
  | .cons h k r, o, g, 0, a, b, a', b', og, e, e' => by
    simp only [Fo.get, Option.some.injEq, Prod.mk.injEq] at e
    obtain ⟨rfl, rfl⟩ := e
    obtain ⟨o1, o2, _⟩ := Fo.ok_get g 0 a' b' og e'
    exact equal_one _ _ _ _ o.1 o.2.1 o1 o2 (fun i c d c' d' e e' => equal_all k o.2.1 b' i c d c' d' o2 e e')
  | .cons h k r, o, .nil, i + 1, a, b, a', b', og, e, e' => by simp [Fo.get] at e'
  | .cons h k r, o, .cons h2 k2 r2, i + 1, a, b, a', b', og, e, e' => equal_all r o.2.2.1 r2 i a b a' b' og.2.2.1 e e'
theorem equal_any (h : Hd) (k : Fo) (h' : Hd) (k' : Fo) (ho : h.ok) (hk : k.ok) (ho' : h'.ok) (hk' : k'.ok) : EqualC h k h' k' :=
  equal_one h k h' k' ho hk ho' hk' (fun i a b a' b' e e' => equal_all k hk k' i a b a' b' hk' e e')

/-- The name of what can't be compared, of a datum held against itself. -/
def heldS (h : Hd) (k : Fo) : ByteArray := (equalD h k h k).2
set_option maxHeartbeats 400000 in
theorem held_any (h : Hd) (k : Fo) (ho : h.ok) (hk : k.ok) (w : World) (S : Nat → Prop) (pa : Option Addr) (pc : Nat) (ia : Option Addr) (ic : Nat) (hd : DatAt w S h k pa pc ia ic) :
    Calls Tryd.prog 51 #[.agg (h.cells pa pc ia k.len ic)] w fun e w' => e = .returned (.string (heldS h k)) ∧ Below w.heap.size w w' := by
  have he := equal_any h k h k ho hk ho hk (w.alloc (.cells (h.cells pa pc ia k.len ic) 31)) S S pa pc ia ic pa pc ia ic (hd.keep (fun b _ h => Below.heap_alloc _ _ _ h) (fun _ h _ => h)) (hd.keep (fun b _ h => Below.heap_alloc _ _ _ h) (fun _ h _ => h))
  unfold Hd.cells at he ⊢
  have HE := Lib.hid he
  clear he
  go_enter Tryd.func51, Tryd.ntmps51
  go_wp2_with fail
  refine HE.out.mono ?_
  rintro e w1 ⟨rfl, hb1⟩
  go_wp2_with fail
  go_ret
  exact ⟨rfl, by ((repeat' (first | exact Below.refl _ _ | assumption | (refine bl_alloc ?_ _) | (refine Below.drew ?_) | (refine below_drewN ?_ _) | (refine Below.setCell ?_ ?_ _) | (refine bl_trans ?_ (by assumption)))) <;> first | omega | (simp; done) | (simp; omega))⟩
end Go.Proofs.YtlhfickniegooaaDoor

namespace Go.Proofs.YtlhfickniegooaaDoor
open Go.RowKit Go.Sort

/-- A slice whose cells, from its address on, are known, in new memory: nil, or a row from B on. -/
def CloneInt (B : Nat) (l : List Int) (w : World) (e : Ending) (w' : World) : Prop :=
  ∃ pa pc, e = .returned (.slice pa l.length pc) ∧ PathAt w' (fun b => B ≤ b) pa l ∧ l.length ≤ pc ∧ pc ≤ 9223372036854775807 ∧ Below w.heap.size w w'

theorem info_int : (Tryd.prog.info? 3).map (fun i => (i.zero, i.size, i.bytes)) = some (some (.int .i64 0), 1, 8) := by kernel_rfl
theorem own_path {w : World} {B n : Nat} {v : Value} {l : List Int} (h : w.ownsRow B 3 1 v n (l.map (Value.int .i64))) : ∃ pa pc, v = .slice pa l.length pc ∧ PathAt w (fun b => B ≤ b) pa l ∧ l.length ≤ pc ∧ pc ≤ 9223372036854775807 := by
  have hn : n = l.length := by have := h.1; simpa using this.symm
  subst hn
  rcases h.2 with ⟨rfl, h0⟩ | ⟨g, cap, cur, rfl, hg, hh, hc, hm, hs, ht⟩
  · exact ⟨none, 0, by rw [h0], .inl (List.eq_nil_of_length_eq_zero h0), by omega, by omega⟩
  · refine ⟨_, cap, rfl, .inr ⟨g, 0, rfl, hg, fun j x hx => ?_⟩, hc, by unfold maxLen at hm; exact hm⟩
    rw [cell_of_row w g _ cur _ _ hh, Nat.zero_add]
    have h1 : (cur.toList.take (l.length * 1))[j]? = some (.int .i64 x) := by rw [ht]; simp [hx]
    rw [List.getElem?_take] at h1
    split at h1
    · simpa using h1
    · cases h1

theorem add_addr (b o j : Nat) : (Addr.mk b o none).add j = ⟨b, o + j, none⟩ := by
  unfold Addr.add
  split
  · rename_i h; subst h; rfl
  · rfl
theorem path_news {w : World} {S : Nat → Prop} {ad : Addr} {l : List Int} (hp : PathAt w S (some ad) l) : ∀ (j : Nat) (u : Value), (l.map (Value.int .i64))[j]? = some u → w.cell? (ad.add j) = some u := by
  intro j u hu
  rcases hp with rfl | ⟨b, o, h1, _, h3⟩
  · simp at hu
  · injection h1 with h1
    subst h1
    rw [add_addr]
    rw [List.getElem?_map] at hu
    cases hx : l[j]? with
    | none => simp [hx] at hu
    | some x => simp [hx] at hu; rw [h3 j x hx, hu]

set_option maxRecDepth 100000 in
set_option maxHeartbeats 800000 in
theorem cloneInt_any (l : List Int) (pa : Option Addr) (pc : Nat) (w : World) (S : Nat → Prop) (hl : l.length ≤ 17592186043904) (hp : PathAt w S pa l) :
    Calls Tryd.prog 75 #[.slice pa l.length pc] w (CloneInt w.heap.size l w) := by
  cases pa with
  | none =>
    have hl0 : l = [] := by
      rcases hp with h | ⟨b, o, h, _⟩
      · exact h
      · cases h
    subst hl0
    have hnil := fun W => Lib.run_eql_slice_nil (P := Tryd.prog) W 22 3 none 0 pc 0 0 Tryd.underlying22
    simp only [Option.isNone] at hnil
    go_enter Tryd.func75, Tryd.ntmps75
    go_wp2_with fail
    go_ret
    exact ⟨none, 0, rfl, .inl rfl, by simp, by omega, Below.refl _ _⟩
  | some ad =>
    obtain ⟨i0, hi, hz0, hz1, hz2⟩ := info_parts info_int
    have hnil := fun W => Lib.run_eql_slice_nil (P := Tryd.prog) W 22 3 (some ad) l.length pc 0 0 Tryd.underlying22
    simp only [Option.isNone] at hnil
    have hp1 := path_news (hp.keep (w' := w.alloc (.cells #[] 3)) (fun b _ h => Below.heap_alloc _ _ _ h) (fun _ h _ => h))
    have HP := Lib.hid hp1
    have hown := World.ownsRow_made (base := w.heap.size) (e := 3) (size := 1) w #[] 0 (Nat.le_refl _) (by decide) rfl
    have HOWN := Lib.hid hown
    clear hp1 hown
    go_enter Tryd.func75, Tryd.ntmps75
    go_wp2_with (at_builtin; refine wpList_append_own_at _ rfl (.tmp 5) (.tmp 6) _ rfl w.heap.size 3 i0 _ 1 8 Tryd.underlying22 hi hz0 hz1 hz2 rfl (by omega) (.slice (some ⟨w.heap.size, 0, none⟩) 0 0) 0 [] rfl HOWN.out ad l.length pc (l.map (Value.int .i64)) rfl (by simp) HP.out (by simp [Value.oneCell']) (by unfold maxLen; omega) (by omega) (by simp) ?_; intro v' w' hown' hgrow _ _)
    obtain ⟨pa', pc', hv, h1, h2, h3⟩ := own_path (by simpa using hown')
    subst hv
    go_ret
    exact ⟨pa', pc', rfl, h1, h2, h3, (Below.refl _ _).alloc (Nat.le_refl _) _ |>.grown hgrow (by simp) (by intro k hk; simp [Value.ownBlock] at hk; omega)⟩

theorem info_dat : (Tryd.prog.info? 31).map (fun i => (i.zero, i.size, i.bytes)) = some (some (.agg #[.int .i64 0, .string ⟨#[]⟩, .int .i64 0, .int .u64 0, .string ⟨#[]⟩, .int .i64 0, .int .i64 0, .int .i64 0, .int .i64 0, .slice none 0 0, .slice none 0 0]), 11, 136) := by kernel_rfl

/-- The cells of a row of data, as a list. -/
theorem FoAt.list {w : World} {S : Nat → Prop} : ∀ (f : Fo) (b o : Nat), FoAt w S b o f → ∃ xs : List Value, xs.length = f.len * 11 ∧ (∀ (j : Nat) (u : Value), xs[j]? = some u → w.cell? ⟨b, o + j, none⟩ = some u) ∧ ∀ u ∈ xs, u.oneCell' = true
  | .nil, _, _, _ => ⟨[], rfl, fun j u h => by simp at h, fun u h => by simp at h⟩
  | .cons h k r, b, o, ⟨⟨pa, pc, ia, ic, h1, _⟩, h6⟩ => by
    obtain ⟨ys, y1, y2, y3⟩ := FoAt.list r b (o + 11) h6
    refine ⟨(h.cells pa pc ia k.len ic).toList ++ ys, by simp only [List.length_append, y1, Fo.len]; simp [Hd.cells]; omega, fun j u hu => ?_, fun u hu => ?_⟩
    · by_cases hj : j < 11
      · rw [List.getElem?_append_left (by simpa [Hd.cells] using hj)] at hu
        exact h1 j u (by simpa using hu)
      · rw [List.getElem?_append_right (by simp [Hd.cells]; omega)] at hu
        have := y2 _ u hu
        rwa [show o + 11 + (j - (h.cells pa pc ia k.len ic).toList.length) = o + j by simp [Hd.cells]; omega] at this
    · rw [List.mem_append] at hu
      rcases hu with hu | hu
      · simp [Hd.cells] at hu
        rcases hu with rfl | rfl | rfl | rfl | rfl | rfl | rfl | rfl | rfl | rfl | rfl <;> rfl
      · exact y3 u hu
theorem FoAt.copy {w w' : World} {S : Nat → Prop} (hk : ∀ b, S b → b < w.heap.size → w'.heap[b]? = w.heap[b]?) : ∀ (f : Fo) (b o g p : Nat), FoAt w S b o f →
    (∀ (j : Nat) (u : Value), j < f.len * 11 → w.cell? ⟨b, o + j, none⟩ = some u → w'.cell? ⟨g, p + j, none⟩ = some u) → FoAt w' S g p f
  | .nil, _, _, _, _, _, _ => trivial
  | .cons h k r, b, o, g, p, ⟨⟨pa, pc, ia, ic, h1, h2, h3, h3', h4, h4', h5⟩, h6⟩, hc => by
    refine ⟨⟨pa, pc, ia, ic, fun j v hv => hc j v ?_ (h1 j v hv), h2.keep hk (fun _ h _ => h), h3, h3', h4, h4', SlAt.keep h5 hk (fun _ h _ => h)⟩, FoAt.copy hk r b (o + 11) g (p + 11) h6 fun j u hj hu => ?_⟩
    · have : j < (h.cells pa pc ia k.len ic).size := by
        rcases Nat.lt_or_ge j (h.cells pa pc ia k.len ic).size with h | h
        · exact h
        · rw [Array.getElem?_eq_none h] at hv; cases hv
      simp [Hd.cells] at this
      simp only [Fo.len]
      omega
    · rw [Nat.add_assoc]
      exact hc (11 + j) u (by simp only [Fo.len]; omega) (by rw [← Nat.add_assoc]; exact hu)

/-- A clone of a row of data: the row is new; its elements lead where the old ones lead. -/
def CloneDat (S : Nat → Prop) (k : Fo) (w : World) (e : Ending) (w' : World) : Prop :=
  ∃ ia ic, e = .returned (.slice ia k.len ic) ∧ k.len ≤ ic ∧ ic ≤ 9223372036854775807 ∧ Below w.heap.size w w' ∧
    (k.len = 0 ∨ ∃ g cur, ia = some ⟨g, 0, none⟩ ∧ w.heap.size ≤ g ∧ Blk w' g 31 cur ∧ cur.size = ic * 11 ∧ FoAt w' S g 0 k)

set_option maxRecDepth 100000 in
set_option maxHeartbeats 800000 in
theorem cloneDat_any (k : Fo) (ia : Option Addr) (ic : Nat) (w : World) (S : Nat → Prop) (hl : k.len ≤ 1034834473200) (hp : SlAt w S ia k) :
    Calls Tryd.prog 76 #[.slice ia k.len ic] w (CloneDat S k w) := by
  cases ia with
  | none =>
    have hl0 : k.len = 0 := by
      rcases hp with h | ⟨b, o, h, _⟩
      · exact h
      · cases h
    have hnil := fun W => Lib.run_eql_slice_nil (P := Tryd.prog) W 29 31 none k.len ic 0 0 Tryd.underlying29
    simp only [Option.isNone] at hnil
    have HL := Lib.hid hl0
    clear hl0
    go_enter Tryd.func76, Tryd.ntmps76
    go_wp2_with fail
    go_ret
    exact ⟨none, 0, by rw [HL.out]; rfl, by rw [HL.out]; omega, by omega, Below.refl _ _, .inl HL.out⟩
  | some ad =>
    obtain ⟨i0, hi, hz0, hz1, hz2⟩ := info_parts info_dat
    have hnil := fun W => Lib.run_eql_slice_nil (P := Tryd.prog) W 29 31 (some ad) k.len ic 0 0 Tryd.underlying29
    simp only [Option.isNone] at hnil
    have hkeep : ∀ (b : Nat), S b → b < w.heap.size → (w.alloc (.cells #[] 31)).heap[b]? = w.heap[b]? := fun b _ h => Below.heap_alloc _ _ _ h
    obtain ⟨xs, x1, x2, x3⟩ : ∃ xs : List Value, xs.length = k.len * 11 ∧ (∀ (j : Nat) (u : Value), xs[j]? = some u → (w.alloc (.cells #[] 31)).cell? (ad.add j) = some u) ∧ ∀ u ∈ xs, u.oneCell' = true := by
      rcases hp with h | ⟨b, o, e, hS, h⟩
      · exact ⟨[], by rw [h]; rfl, fun j u h => by simp at h, fun u h => by simp at h⟩
      · injection e with e
        subst e
        obtain ⟨xs, x1, x2, x3⟩ := FoAt.list k b o (FoAt.keep hkeep (fun _ h _ => h) k b o hS h)
        exact ⟨xs, x1, fun j u hu => by rw [add_addr]; exact x2 j u hu, x3⟩
    have HP := Lib.hid x2
    have hown := World.ownsRow_made (base := w.heap.size) (e := 31) (size := 11) w #[] 0 (Nat.le_refl _) (by decide) rfl
    have HOWN := Lib.hid hown
    clear x2 hown
    go_enter Tryd.func76, Tryd.ntmps76
    go_wp2_with (at_builtin; refine wpList_append_own_at _ rfl (.tmp 5) (.tmp 6) _ rfl w.heap.size 31 i0 _ 11 136 Tryd.underlying29 hi hz0 hz1 hz2 rfl (by omega) (.slice (some ⟨w.heap.size, 0, none⟩) 0 0) 0 [] rfl HOWN.out ad k.len ic xs rfl x1 HP.out x3 (by unfold maxLen; omega) (by omega) (by simp) ?_; intro v' w' hown' hgrow hiff _)
    have hb : Below w.heap.size w w' := ((Below.refl _ _).alloc (Nat.le_refl _) _).grown hgrow (by simp) (by intro k hk; simp [Value.ownBlock] at hk; omega)
    have hv : ∃ ia' ic', v' = .slice ia' k.len ic' ∧ k.len ≤ ic' ∧ ic' ≤ 9223372036854775807 ∧ (k.len = 0 ∨ ∃ g cur, ia' = some ⟨g, 0, none⟩ ∧ w.heap.size ≤ g ∧ Blk w' g 31 cur ∧ cur.size = ic' * 11 ∧ FoAt w' S g 0 k) := by
      simp only [Nat.zero_add, List.nil_append] at hown'
      rcases hown'.2 with ⟨rfl, h0⟩ | ⟨g, cap, cur, rfl, hg, hh, hc, hm, hs, ht⟩
      · exact ⟨none, 0, by rw [h0], by omega, by omega, .inl h0⟩
      · refine ⟨_, cap, rfl, hc, by unfold maxLen at hm; exact hm, ?_⟩
        rcases hp with h | ⟨b, o, e, hS, h⟩
        · exact .inl h
        · refine .inr ⟨g, cur, rfl, hg, hh, hs, FoAt.copy (fun b _ h => hb.block b h) k b o g 0 h fun j u hj hu => ?_⟩
          have e1 := HP.out j (xs[j]'(by omega)) (List.getElem?_eq_getElem (by omega))
          injection e with e
          rw [e, add_addr, World.cell?_alloc_lt _ _ _ (cell_lt hu), hu] at e1
          rw [Nat.zero_add, cell_of_row w' g _ cur _ _ hh]
          have h1 : (cur.toList.take (k.len * 11))[j]? = some (xs[j]'(by omega)) := by rw [ht]; exact List.getElem?_eq_getElem (by omega)
          rw [List.getElem?_take, if_pos hj] at h1
          injection e1 with e1
          rw [← e1] at h1
          simpa using h1
    obtain ⟨ia', ic', rfl, h1, h2, h3⟩ := hv
    go_ret
    exact ⟨ia', ic', rfl, h1, h2, hb, h3⟩
end Go.Proofs.YtlhfickniegooaaDoor
