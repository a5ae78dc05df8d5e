/-
  Contracts of value.kindOf, slices.Equal at ints, value.equal, value.held. Written by an AI agent.
-/
import Derived.Test.YthdmmhiifkebeaaDoorVal2
import Derived.Test.YthdmmhiifkebeaaDoorFb
import Derived.Test.YthdmmhiifkebeaaDoorQ
import Derived.BigQuiet
import Derived.Deep.QuietTactic
import Derived.Deep.DeepCutAuto
import Derived.Deep.RegionWith
import Derived.Laws.StructEq
namespace Go.Proofs.YthdmmhiifkebeaaDoor
open Go.RowKit Go.Sort

set_option maxHeartbeats 400000 in
theorem kindOf_any (h : Hd) (k : Nat) (pa : Option Addr) (pc : Nat) (ia : Option Addr) (ic : Nat) (w : World) :
    Calls Tryd.prog 68 #[.agg (h.cells pa pc ia k ic)] w fun e w' => e = .returned (.agg #[.int .i64 h.kind, .string h.type]) ∧ Below w.heap.size w w' := by
  unfold Hd.cells
  go_enter Tryd.func68, Tryd.ntmps68
  go_wp2_with fail
  exact bodyPost_ret (v := .agg #[.int .i64 h.kind, .string h.type]) (by simp [results, Tryd.results68, go_sem]) rfl ⟨rfl, by ((repeat' (first | exact Below.refl _ _ | assumption | (refine bl_alloc ?_ _) | (refine Below.drew ?_) | (refine below_drewN ?_ _) | (refine Below.setCell ?_ ?_ _) | (refine bl_trans ?_ (by assumption)))) <;> first | omega | (simp; done) | (simp; omega))⟩

set_option maxHeartbeats 800000 in
theorem sEqual_any (l m : List Int) (pa qa : Option Addr) (pc qc : Nat) (w : World) (S T : Nat → Prop) (hl : l.length ≤ 9223372036854775807) (_hm : m.length ≤ 9223372036854775807) (hp : PathAt w S pa l) (hq : PathAt w T qa m) :
    Calls Tryd.prog 69 #[.slice pa l.length pc, .slice qa m.length qc] w fun e w' => e = .returned (.bool (decide (l = m))) ∧ Below w.heap.size w w' := by
  by_cases hlm : l.length = m.length
  · have hne : ((l.length : Int) != (m.length : Int)) = false := by simp [hlm]
    have HLM := Lib.hid hlm
    clear hlm
    go_enter Tryd.func69, Tryd.ntmps69
    go_wp2_with fail
    go_loopg [13] l.length (fun g i wr => ∃ (k n : Nat), k ≤ l.length ∧ i = .int .i64 k ∧ g = l.length - k ∧ wr = w.drewN n ∧ ∀ j, j < k → l[j]? = m[j]?)
    case atStart => exact ⟨0, 0, by omega, rfl, by omega, rfl, by omega⟩
    case round =>
      obtain ⟨k, n, hk, rfl, rfl, rfl, hn⟩ := hrel
      have HN := Lib.hid hn
      clear hn
      by_cases hlt : k < l.length
      · obtain ⟨x, hx⟩ : ∃ x, l[k]? = some x := ⟨_, List.getElem?_eq_getElem hlt⟩
        have hlt2 : k < m.length := by rw [← HLM.out]; exact hlt
        obtain ⟨y, hy⟩ : ∃ y, m[k]? = some y := ⟨_, List.getElem?_eq_getElem hlt2⟩
        obtain ⟨b, o, rfl, _, hc⟩ := hp.get hx
        obtain ⟨b2, o2, rfl, _, hc2⟩ := hq.get hy
        have HX := Lib.hid hx
        have HY := Lib.hid hy
        clear hx hy
        have hk0 : (0 : Int) ≤ (k : Int) := by omega
        have hk1 : (k : Int) < (l.length : Int) := by omega
        have hk2 : (k : Int) < (m.length : Int) := by omega
        go_wp2_with fail
        go_quiet (fail)
        go_wp2_with fail
        · go_ret
          have hxy : x ≠ y := by simpa using ‹(x != y) = true›
          refine ⟨ret_bool (decide_eq_false fun e => hxy ?_).symm, by ((repeat' (first | exact Below.refl _ _ | assumption | (refine bl_alloc ?_ _) | (refine Below.drew ?_) | (refine below_drewN ?_ _) | (refine Below.setCell ?_ ?_ _) | (refine bl_trans ?_ (by assumption)))) <;> first | omega | (simp; done) | (simp; omega))⟩
          have h1 := HX.out
          rw [e, HY.out] at h1
          injection h1 with h1
          exact h1.symm
        · go_roundg (l.length - (k + 1))
          case measure => omega
          case rel =>
            have hxy : x = y := by simpa using ‹(x != y) = false›
            refine ⟨k + 1, _, by omega, by go_num, rfl, rfl, fun j hj => ?_⟩
            by_cases hjk : j = k
            · subst hjk; rw [HX.out, HY.out, hxy]
            · exact HN.out j (by omega)
      · have hkl : k = l.length := by omega
        subst hkl
        go_wp2_with fail
        go_ret
        refine ⟨ret_bool (decide_eq_true ?_).symm, below_drewN (Below.refl _ _) _⟩
        exact List.ext_getElem? fun j => by
          rcases Nat.lt_or_ge j l.length with hj | hj
          · exact HN.out j hj
          · rw [List.getElem?_eq_none hj, List.getElem?_eq_none (by rw [← HLM.out]; exact hj)]
  · have hne : ((l.length : Int) != (m.length : Int)) = true := by rw [bne_iff_ne]; omega
    have HLM := Lib.hid hlm
    clear hlm
    go_enter Tryd.func69, Tryd.ntmps69
    go_wp2_with fail
    go_ret
    exact ⟨ret_bool (decide_eq_false fun e => HLM.out (by rw [e])).symm, Below.refl _ _⟩

def emp : ByteArray := ⟨#[]⟩
/-- Are two of one type? -/
def oneB (h h' : Hd) : Bool := decide (h.kind = h'.kind ∧ h.type = h'.type)
/-- What value.equal answers of two of one type that are no structs. -/
def equalH (h h' : Hd) : Bool × ByteArray :=
  if h.kind = 3 then (feqB h.f.toNat h'.f.toNat, emp)
  else if h.kind = 5 ∨ h.kind = 6 ∨ h.kind = 7 then (false, h.type)
  else if h.kind = 9 then (decide (h.obj = h'.obj ∧ h.path = h'.path), emp)
  else (decide (h.n = h'.n ∧ h.s = h'.s), emp)
def equalF : Fo → Fo → Bool × ByteArray
  | .cons h k r, .cons h' k' r' =>
    if (if oneB h h' = false then (false, emp) else if h.kind = 8 then (if k.len ≠ k'.len then (false, emp) else equalF k k') else equalH h h').1 = true then equalF r r'
    else (false, (if oneB h h' = false then (false, emp) else if h.kind = 8 then (if k.len ≠ k'.len then (false, emp) else equalF k k') else equalH h h').2)
  | _, _ => (true, emp)
def equalD (h : Hd) (k : Fo) (h' : Hd) (k' : Fo) : Bool × ByteArray := if oneB h h' = false then (false, emp) else if h.kind = 8 then (if k.len ≠ k'.len then (false, emp) else equalF k k') else equalH h h'
theorem equalF_cons (h : Hd) (k r : Fo) (h' : Hd) (k' r' : Fo) : equalF (.cons h k r) (.cons h' k' r') = if (equalD h k h' k').1 = true then equalF r r' else (false, (equalD h k h' k').2) := by
  rw [equalF]; rfl

def EqualC (h : Hd) (k : Fo) (h' : Hd) (k' : Fo) : Prop := ∀ (w : World) (S T : Nat → Prop) (pa : Option Addr) (pc : Nat) (ia : Option Addr) (ic : Nat) (pa' : Option Addr) (pc' : Nat) (ia' : Option Addr) (ic' : Nat),
  DatAt w S h k pa pc ia ic → DatAt w T h' k' pa' pc' ia' ic' →
  Calls Tryd.prog 66 #[.agg (h.cells pa pc ia k.len ic), .agg (h'.cells pa' pc' ia' k'.len ic')] w fun e w' => e = .returned (.tuple #[.bool (equalD h k h' k').1, .string (equalD h k h' k').2]) ∧ Below w.heap.size w w'

theorem neqKind (h h' : Hd) (w : World) : (binOp .neq 141 (.agg #[.int .i64 h.kind, .string h.type]) (.agg #[.int .i64 h'.kind, .string h'.type])).run Tryd.prog w = .ok (.bool (!oneB h h')) w := by
  have e : oneB h h' = decide (h.kind = h'.kind ∧ h.type.toList = h'.type.toList) := by
    unfold oneB
    rw [decide_eq_decide]
    exact ⟨fun ⟨a, b⟩ => ⟨a, by rw [b]⟩, fun ⟨a, b⟩ => ⟨a, str_eq (by simpa using b)⟩⟩
  rw [e]
  simp [go_sem, Tryd.underlying141]
  by_cases h1 : h.kind = h'.kind <;> by_cases h2 : h.type.toList = h'.type.toList <;> simp [h1, h2]

set_option maxRecDepth 100000 in
set_option maxHeartbeats 4000000 in
theorem equal_one (h : Hd) (k : Fo) (h' : Hd) (k' : Fo) (ho : h.ok) (_hk : k.ok) (ho' : h'.ok) (_hk' : k'.ok) (ih : ∀ i a b a' b', k.get i = some (a, b) → k'.get i = some (a', b') → EqualC a b a' b') : EqualC h k h' k' := by
  intro w S T pa pc ia ic pa' pc' ia' ic' hd hd'
  unfold Hd.cells
  go_enter Tryd.func66, Tryd.ntmps66
  go_upto_region 0 with fail
  go_cut [0, 1, 2, 3] (fun _ _ t2 t3 wx => t2 = .pointer (some ⟨w.heap.size, 0, none⟩) ∧ t3 = .pointer (some ⟨w.heap.size + 1, 0, none⟩) ∧ Blk wx w.heap.size 28 (h.cells pa pc ia k.len ic) ∧ Blk wx (w.heap.size + 1) 28 (h'.cells pa' pc' ia' k'.len ic') ∧ Below w.heap.size w wx)
  case first =>
    go_wp2_with fail
    go_meet
    case rel => exact ⟨rfl, rfl, (Blk.new _ _ _).alloc _, Blk.new1 _ _ _ _, by ((repeat' (first | exact Below.refl _ _ | assumption | (refine bl_alloc ?_ _) | (refine Below.drew ?_) | (refine below_drewN ?_ _) | (refine Below.setCell ?_ ?_ _) | (refine bl_trans ?_ (by assumption)))) <;> first | omega | (simp; done) | (simp; omega))⟩
  case rest =>
    obtain ⟨rfl, rfl, hA, hB, hbw⟩ := hcut
    obtain ⟨k0, k1, k2, k3, k4, k5, k6, k7, k8, k9, k10⟩ := (CellsAt.of_blk hA).boxrg
    obtain ⟨l0, l1, l2, l3, l4, l5, l6, l7, l8, l9, l10⟩ := (CellsAt.of_blk hB).boxrg
    obtain ⟨w0, rfl⟩ : ∃ w0 : World, w0 = wc := ⟨_, rfl⟩
    have hnk := neqKind h h'
    go_upto_region 1 with fail
    go_cut [13] (fun t wx => t = .bool (!oneB h h') ∧ Below w0.heap.size w0 wx)
    case first =>
      as_aux_lemma =>
        refine wp_region_below (by kernel_rfl) (by kernel_rfl) ?_
        repeat (quiet_step ((first | (go_at_call_of 68 (Value.string h.type); exact Calls.regrown_of (kindOf_any h k.len pa pc ia ic _)) | (go_at_call_of 68 (Value.string h'.type); exact Calls.regrown_of (kindOf_any h' k'.len pa' pc' ia' ic' _)))))
        refine wpQuiet_nil ?_
        intro w1 hb1
        go_wp2_with fail
        go_meet
        case rel => exact ⟨rfl, hb1⟩
    case rest =>
    obtain ⟨rfl, hb1⟩ := hcut
    obtain ⟨w1, rfl⟩ : ∃ w1 : World, w1 = wc := ⟨_, rfl⟩
    have hbw1 := hbw.trans (hb1.mono hbw.size)
    by_cases hone : oneB h h' = false
    · have HD : Hid (equalD h k h' k' = (false, emp)) := by unfold Hid equalD; rw [if_pos hone]
      rw [show (!oneB h h') = true by rw [hone]; rfl]
      clear hone hnk
      go_wp2_with fail
      go_ret2
      rw [HD.out]
      exact ⟨rfl, hbw1⟩
    have hone' : oneB h h' = true := by simpa using hone
    have HD : Hid (equalD h k h' k' = if h.kind = 8 then (if k.len ≠ k'.len then (false, emp) else equalF k k') else equalH h h') := by unfold Hid equalD; rw [if_neg hone]
    rw [show (!oneB h h') = false by rw [hone']; rfl]
    have hlA := hA.lt
    have hlB := hB.lt
    have hA1 := hA.below hb1 hlA
    have hB1 := hB.below hb1 hlB
    have hd1 := hd.below (hbw.trans (hb1.mono hbw.size)) (fun b _ h => h)
    have hd1' := hd'.below (hbw.trans (hb1.mono hbw.size)) (fun b _ h => h)
    clear k0 k1 k2 k3 k4 k5 k6 k7 k8 k9 k10 l0 l1 l2 l3 l4 l5 l6 l7 l8 l9 l10 hone hone' hnk hA hB hb1 hbw hd hd' hlA hlB
    obtain ⟨c0, c1, c2, c3, c4, c5, c6, c7, c8, c9, c10⟩ := (CellsAt.of_blk hA1).box
    obtain ⟨d0, d1, d2, d3, d4, d5, d6, d7, d8, d9, d10⟩ := (CellsAt.of_blk hB1).box
    have hpl : h.path.length ≤ 9223372036854775807 := Nat.le_trans ho.path (by decide)
    have hpl' : h'.path.length ≤ 9223372036854775807 := Nat.le_trans ho'.path (by decide)
    have hkl : k.len ≤ 9223372036854775807 := Nat.le_trans hd1.icLe hd1.icMax
    have hkl' : k'.len ≤ 9223372036854775807 := Nat.le_trans hd1'.icLe hd1'.icMax
    by_cases q3 : h.kind = 3
    · as_aux_lemma =>
        obtain ⟨k0, k1, k2, k3, k4, k5, k6, k7, k8, k9, k10⟩ := (CellsAt.of_blk hA1).boxrg
        obtain ⟨l0, l1, l2, l3, l4, l5, l6, l7, l8, l9, l10⟩ := (CellsAt.of_blk hB1).boxrg
        have HE : Hid (equalD h k h' k' = (feqB h.f.toNat h'.f.toNat, emp)) := by unfold Hid; rw [HD.out, if_neg (by omega)]; unfold equalH; rw [if_pos q3]
        clear HD
        have hf1 := fromBits h.f
        have hf2 := fromBits h'.f
        have hf3 := feq h.f.toNat h'.f.toNat
        go_wp2_with fail
        refine wp_region_below (by kernel_rfl) (by kernel_rfl) ?_
        repeat (quiet_step ((fail)))
        refine wpQuiet_nil ?_
        intro w2 hb2
        go_wp2_with fail
        go_ret2
        rw [HE.out]
        exact ⟨rfl, by ((repeat' (first | exact Below.refl _ _ | assumption | (refine bl_alloc ?_ _) | (refine Below.drew ?_) | (refine below_drewN ?_ _) | (refine Below.setCell ?_ ?_ _) | (refine bl_trans ?_ (by assumption)))) <;> first | omega | (simp; done) | (simp; omega))⟩
    by_cases q5 : h.kind = 5 ∨ h.kind = 6 ∨ h.kind = 7
    · as_aux_lemma =>
        obtain ⟨k0, k1, k2, k3, k4, k5, k6, k7, k8, k9, k10⟩ := (CellsAt.of_blk hA1).boxrg
        have HE : Hid (equalD h k h' k' = (false, h.type)) := by unfold Hid; rw [HD.out, if_neg (by omega)]; unfold equalH; rw [if_neg q3, if_pos q5]
        clear HD q3
        rcases q5 with q5 | q5 | q5
        all_goals
          go_wp2_with fail
          refine wp_region_below (by kernel_rfl) (by kernel_rfl) ?_
          repeat (quiet_step ((fail)))
          refine wpQuiet_nil ?_
          intro w2 hb2
          go_wp2_with fail
          go_ret2
          rw [HE.out]
          exact ⟨rfl, by ((repeat' (first | exact Below.refl _ _ | assumption | (refine bl_alloc ?_ _) | (refine Below.drew ?_) | (refine below_drewN ?_ _) | (refine Below.setCell ?_ ?_ _) | (refine bl_trans ?_ (by assumption)))) <;> first | omega | (simp; done) | (simp; omega))⟩
    by_cases q9 : h.kind = 9
    · as_aux_lemma =>
        have HE : Hid (equalD h k h' k' = (decide (h.obj = h'.obj ∧ h.path = h'.path), emp)) := by unfold Hid; rw [HD.out, if_neg (by omega)]; unfold equalH; rw [if_neg q3, if_neg q5, if_pos q9]
        clear HD q3 q5
        by_cases qo : h.obj = h'.obj
        · have qob : (h.obj == h'.obj) = true := by simpa using qo
          have HO := Lib.hid qo
          clear qo
          go_wp2_with (go_at_call 69; refine (sEqual_any h.path h'.path pa pa' pc pc' w1 S T hpl hpl' hd1.path hd1'.path).mono ?_; rintro e w2 ⟨rfl, hb2⟩)
          go_ret2
          rw [HE.out]
          exact ⟨by simp [HO.out, emp], by ((repeat' (first | exact Below.refl _ _ | assumption | (refine bl_alloc ?_ _) | (refine Below.drew ?_) | (refine below_drewN ?_ _) | (refine Below.setCell ?_ ?_ _) | (refine bl_trans ?_ (by assumption)))) <;> first | omega | (simp; done) | (simp; omega))⟩
        · have qob : (h.obj == h'.obj) = false := by simpa using qo
          have HO := Lib.hid qo
          clear qo
          go_wp2_with fail
          go_ret2
          rw [HE.out]
          exact ⟨by simp [HO.out, emp], by ((repeat' (first | exact Below.refl _ _ | assumption | (refine bl_alloc ?_ _) | (refine Below.drew ?_) | (refine below_drewN ?_ _) | (refine Below.setCell ?_ ?_ _) | (refine bl_trans ?_ (by assumption)))) <;> first | omega | (simp; done) | (simp; omega))⟩
    by_cases q8 : h.kind = 8
    · rw [if_pos q8] at HD
      clear q3 q5 q9 c1 c2 c3 c4 c5 c6 c7 c8 c9 d1 d2 d3 d4 d5 d6 d7 d8 d9
      by_cases ql : k.len = k'.len
      · have qlb : ((k.len : Int) != (k'.len : Int)) = false := by simp [ql]
        have HE : Hid (equalD h k h' k' = equalF k k') := by unfold Hid; rw [HD.out, if_neg (by simp [ql])]
        have HLQ := Lib.hid ql
        clear HD ql
        go_wp2_with fail
        go_loopg [61] k.len (fun g i wr => ∃ j : Nat, j ≤ k.len ∧ i = .int .i64 j ∧ g = k.len - j ∧ Below w.heap.size w wr ∧ Below w1.heap.size w1 wr ∧ equalF k k' = equalF (k.drop j) (k'.drop j))
        case atStart => exact ⟨0, by omega, rfl, by omega, hbw1, Below.refl _ _, by simp⟩
        case round =>
          obtain ⟨j, hj, rfl, rfl, hg, hg1, hn⟩ := hrel
          have HN := Lib.hid hn
          clear hn c0 c10 d0 d10
          have hA2 := hA1.below hg1 hA1.lt
          have hB2 := hB1.below hg1 hB1.lt
          have hd2 := hd1.below hg1 (fun b _ h => h)
          have hd2' := hd1'.below hg1 (fun b _ h => h)
          by_cases hlt : j < k.len
          · obtain ⟨a, b, hget⟩ := Fo.get_lt k j hlt
            obtain ⟨a', b', hget'⟩ := Fo.get_lt k' j (by rw [← HLQ.out]; exact hlt)
            obtain ⟨g1, o1, rfl, _, qa, qc, ja, jc, hcs, hda⟩ := hd2.kids.get hget
            obtain ⟨g2, o2, rfl, _, qa', qc', ja', jc', hcs', hda'⟩ := hd2'.kids.get hget'
            have HDr := Lib.hid (Fo.drop_get k j a b hget)
            have HDr' := Lib.hid (Fo.drop_get k' j a' b' hget')
            have hih := fun d os => ih j a b a' b' hget hget' (grow (redrawn wr d) os) S T qa qc ja jc qa' qc' ja' jc' (hda.below (below_regrown wr d os) (fun b _ h => h)) (hda'.below (below_regrown wr d os) (fun b _ h => h))
            unfold Hd.cells at hih
            have HI := Lib.hid hih
            obtain ⟨_, _, _, _, _, _, _, _, _, _, k10⟩ := (CellsAt.of_blk hA2).boxrg
            obtain ⟨_, _, _, _, _, _, _, _, _, _, l10⟩ := (CellsAt.of_blk hB2).boxrg
            obtain ⟨m0, m1, m2, m3, m4, m5, m6, m7, m8, m9, m10⟩ := hcs.rg
            obtain ⟨n0, n1, n2, n3, n4, n5, n6, n7, n8, n9, n10⟩ := hcs'.rg
            have hj0 : (0 : Int) ≤ (j : Int) := by omega
            have hj1 : (j : Int) < (k.len : Int) := by omega
            have hj2 : (j : Int) < (k'.len : Int) := by have := HLQ.out; omega
            clear hih hget hget' hcs hcs' hda hda'
            go_wp2_with fail
            refine wp_region_below (by kernel_rfl) (by kernel_rfl) ?_
            repeat (quiet_step ((exact Calls.regrown_of (HI.out _ _))))
            refine wpQuiet_nil ?_
            intro w2 hb2
            by_cases hr : (equalD a b a' b').1 = true
            · have HR := Lib.hid hr
              rw [hr]
              clear hr
              have hs2 := hg.size
              have hs3 := hg1.size
              go_wp2_with fail
              go_roundg (k.len - (j + 1))
              case measure => omega
              case rel => exact ⟨j + 1, by omega, by go_num, rfl, by ((repeat' (first | exact Below.refl _ _ | assumption | (refine bl_alloc ?_ _) | (refine Below.drew ?_) | (refine below_drewN ?_ _) | (refine Below.setCell ?_ ?_ _) | (refine bl_trans ?_ (by assumption)))) <;> first | omega | (simp; done) | (simp; omega)), by ((repeat' (first | exact Below.refl _ _ | assumption | (refine bl_alloc ?_ _) | (refine Below.drew ?_) | (refine below_drewN ?_ _) | (refine Below.setCell ?_ ?_ _) | (refine bl_trans ?_ (by assumption)))) <;> first | omega | (simp; done) | (simp; omega)), by rw [HN.out, HDr.out, HDr'.out, equalF_cons, if_pos HR.out]⟩
            · have hr' : (equalD a b a' b').1 = false := by simpa using hr
              have HR := Lib.hid hr'
              rw [hr']
              clear hr hr'
              go_wp2_with fail
              go_ret2
              have e : equalD h k h' k' = (false, (equalD a b a' b').2) := by rw [HE.out, HN.out, HDr.out, HDr'.out, equalF_cons, if_neg (by rw [HR.out]; simp)]
              rw [e]
              exact ⟨rfl, by ((repeat' (first | exact Below.refl _ _ | assumption | (refine bl_alloc ?_ _) | (refine Below.drew ?_) | (refine below_drewN ?_ _) | (refine Below.setCell ?_ ?_ _) | (refine bl_trans ?_ (by assumption)))) <;> first | omega | (simp; done) | (simp; omega))⟩
          · have hjl : j = k.len := by omega
            subst hjl
            go_wp2_with fail
            go_ret2
            have e : equalD h k h' k' = (true, emp) := by rw [HE.out, HN.out, Fo.drop_len k _ (Nat.le_refl _)]; rfl
            rw [e]
            exact ⟨rfl, by ((repeat' (first | exact Below.refl _ _ | assumption | (refine bl_alloc ?_ _) | (refine Below.drew ?_) | (refine below_drewN ?_ _) | (refine Below.setCell ?_ ?_ _) | (refine bl_trans ?_ (by assumption)))) <;> first | omega | (simp; done) | (simp; omega))⟩
      · as_aux_lemma =>
          have qlb : ((k.len : Int) != (k'.len : Int)) = true := by rw [bne_iff_ne]; omega
          have HE : Hid (equalD h k h' k' = (false, emp)) := by unfold Hid; rw [HD.out, if_pos ql]
          clear HD ql
          go_wp2_with fail
          go_ret2
          rw [HE.out]
          exact ⟨rfl, by ((repeat' (first | exact Below.refl _ _ | assumption | (refine bl_alloc ?_ _) | (refine Below.drew ?_) | (refine below_drewN ?_ _) | (refine Below.setCell ?_ ?_ _) | (refine bl_trans ?_ (by assumption)))) <;> first | omega | (simp; done) | (simp; omega))⟩
    · as_aux_lemma =>
        have HE : Hid (equalD h k h' k' = (decide (h.n = h'.n ∧ h.s = h'.s), emp)) := by unfold Hid; rw [HD.out, if_neg q8]; unfold equalH; rw [if_neg q3, if_neg q5, if_neg q9]
        have q30 : (h.kind == 3) = false := by simpa using q3
        have q50 : (h.kind == 5) = false := by rw [beq_eq_false_iff_ne]; omega
        have q60 : (h.kind == 6) = false := by rw [beq_eq_false_iff_ne]; omega
        have q70 : (h.kind == 7) = false := by rw [beq_eq_false_iff_ne]; omega
        have q80 : (h.kind == 8) = false := by simpa using q8
        have q90 : (h.kind == 9) = false := by simpa using q9
        clear HD q3 q5 q8 q9
        by_cases qo : h.n = h'.n
        · have qob : (h.n == h'.n) = true := by simpa using qo
          have HO := Lib.hid qo
          clear qo
          go_wp2_with fail
          go_ret2
          rw [HE.out]
          exact ⟨by simp [HO.out, emp, beq_str], by ((repeat' (first | exact Below.refl _ _ | assumption | (refine bl_alloc ?_ _) | (refine Below.drew ?_) | (refine below_drewN ?_ _) | (refine Below.setCell ?_ ?_ _) | (refine bl_trans ?_ (by assumption)))) <;> first | omega | (simp; done) | (simp; omega))⟩
        · have qob : (h.n == h'.n) = false := by simpa using qo
          have HO := Lib.hid qo
          clear qo
          go_wp2_with fail
          go_ret2
          rw [HE.out]
          exact ⟨by simp [HO.out, emp], by ((repeat' (first | exact Below.refl _ _ | assumption | (refine bl_alloc ?_ _) | (refine Below.drew ?_) | (refine below_drewN ?_ _) | (refine Below.setCell ?_ ?_ _) | (refine bl_trans ?_ (by assumption)))) <;> first | omega | (simp; done) | (simp; omega))⟩

theorem equal_all : ∀ (f : Fo), f.ok → ∀ (g : Fo) (i : Nat) (a : Hd) (b : Fo) (a' : Hd) (b' : Fo), g.ok → f.get i = some (a, b) → g.get i = some (a', b') → EqualC a b a' b'
  | .nil, _, g, i, a, b, a', b', _, e, _ => by simp [Fo.get] at e
  | .cons h k r, o, g, 0, a, b, a', b', og, e, e' => by
    simp only [Fo.get, Option.some.injEq, Prod.mk.injEq] at e
    obtain ⟨rfl, rfl⟩ := e
    obtain ⟨o1, o2, _⟩ := Fo.ok_get g 0 a' b' og e'
    exact equal_one _ _ _ _ o.1 o.2.1 o1 o2 (fun i c d c' d' e e' => equal_all k o.2.1 b' i c d c' d' o2 e e')
  | .cons h k r, o, .nil, i + 1, a, b, a', b', og, e, e' => by simp [Fo.get] at e'
  | .cons h k r, o, .cons h2 k2 r2, i + 1, a, b, a', b', og, e, e' => equal_all r o.2.2.1 r2 i a b a' b' og.2.2.1 e e'
theorem equal_any (h : Hd) (k : Fo) (h' : Hd) (k' : Fo) (ho : h.ok) (hk : k.ok) (ho' : h'.ok) (hk' : k'.ok) : EqualC h k h' k' :=
  equal_one h k h' k' ho hk ho' hk' (fun i a b a' b' e e' => equal_all k hk k' i a b a' b' hk' e e')

/-- The name of what can't be compared, of a datum held against itself. -/
def heldS (h : Hd) (k : Fo) : ByteArray := (equalD h k h k).2
set_option maxHeartbeats 400000 in
theorem held_any (h : Hd) (k : Fo) (ho : h.ok) (hk : k.ok) (w : World) (S : Nat → Prop) (pa : Option Addr) (pc : Nat) (ia : Option Addr) (ic : Nat) (hd : DatAt w S h k pa pc ia ic) :
    Calls Tryd.prog 61 #[.agg (h.cells pa pc ia k.len ic)] w fun e w' => e = .returned (.string (heldS h k)) ∧ Below w.heap.size w w' := by
  have he := equal_any h k h k ho hk ho hk (w.alloc (.cells (h.cells pa pc ia k.len ic) 28)) S S pa pc ia ic pa pc ia ic (hd.keep (fun b _ h => Below.heap_alloc _ _ _ h) (fun _ h _ => h)) (hd.keep (fun b _ h => Below.heap_alloc _ _ _ h) (fun _ h _ => h))
  unfold Hd.cells at he ⊢
  have HE := Lib.hid he
  clear he
  go_enter Tryd.func61, Tryd.ntmps61
  go_wp2_with fail
  refine HE.out.mono ?_
  rintro e w1 ⟨rfl, hb1⟩
  go_wp2_with fail
  go_ret
  exact ⟨rfl, by ((repeat' (first | exact Below.refl _ _ | assumption | (refine bl_alloc ?_ _) | (refine Below.drew ?_) | (refine below_drewN ?_ _) | (refine Below.setCell ?_ ?_ _) | (refine bl_trans ?_ (by assumption)))) <;> first | omega | (simp; done) | (simp; omega))⟩
end Go.Proofs.YthdmmhiifkebeaaDoor
