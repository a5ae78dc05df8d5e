/-
  Contracts of value.Same and of slices.EqualFunc at data with it. Written by an AI agent.
-/
import Derived.Test.YthdmmhiifkebeaaDoorVal15
namespace Go.Proofs.YthdmmhiifkebeaaDoor
open Go.RowKit Go.Sort Go.BigFrame

/-- Are two heads the same, but for their paths? -/
def sameHd (h h' : Hd) : Bool := oneB h h' && (h.n == h'.n && (h.f == h'.f && (decide (h.s = h'.s) && (h.obj == h'.obj && (h.frm == h'.frm && (h.len == h'.len && h.cap == h'.cap))))))
def sameF : Fo → Fo → Bool
  | .nil, .nil => true
  | .cons h k r, .cons h' k' r' => sameHd h h' && decide (h.path = h'.path) && sameF k k' && sameF r r'
  | _, _ => false
def sameD (h : Hd) (k : Fo) (h' : Hd) (k' : Fo) : Bool := sameHd h h' && decide (h.path = h'.path) && sameF k k'
theorem sameF_len : ∀ (f g : Fo), sameF f g = true → f.len = g.len
  | .nil, .nil, _ => rfl
  | .cons h k r, .cons h' k' r', e => by
    simp only [sameF, Bool.and_eq_true] at e
    simp only [Fo.len]
    rw [sameF_len r r' e.2]
  | .nil, .cons .., e => by simp [sameF] at e
  | .cons .., .nil, e => by simp [sameF] at e

def SameC (h : Hd) (k : Fo) (h' : Hd) (k' : Fo) : Prop := ∀ (w : World) (S T : Nat → Prop) (pa : Option Addr) (pc : Nat) (ia : Option Addr) (ic : Nat) (pa' : Option Addr) (pc' : Nat) (ia' : Option Addr) (ic' : Nat),
  DatAt w S h k pa pc ia ic → DatAt w T h' k' pa' pc' ia' ic' →
  Calls Tryd.prog 30 #[.agg (h.cells pa pc ia k.len ic), .agg (h'.cells pa' pc' ia' k'.len ic')] w fun e w' => e = .returned (.bool (sameD h k h' k')) ∧ Below w.heap.size w w'

set_option maxRecDepth 100000 in
set_option maxHeartbeats 4000000 in
theorem equalFunc_any (k k' : Fo) (_hk : k.ok) (_hk' : k'.ok) (hl : k.len ≤ 1034834473170) (_hl' : k'.len ≤ 1034834473170) (ih : ∀ i a b a' b', k.get i = some (a, b) → k'.get i = some (a', b') → SameC a b a' b') (w : World) (S T : Nat → Prop) (ia : Option Addr) (ic : Nat) (ia' : Option Addr) (ic' : Nat)
    (hd : SlAt w S ia k) (hd' : SlAt w T ia' k') :
    Calls Tryd.prog 70 #[.slice ia k.len ic, .slice ia' k'.len ic', .func (.func 30) #[] #[]] w fun e w' => e = .returned (.bool (sameF k k')) ∧ Below w.heap.size w w' := by
  have hdl : SlAt w (fun b => b < w.heap.size) ia k := hd.keep (fun _ _ _ => rfl) (fun _ _ h => h)
  have hdl' : SlAt w (fun b => b < w.heap.size) ia' k' := hd'.keep (fun _ _ _ => rfl) (fun _ _ h => h)
  by_cases hlen : k.len = k'.len
  · have hne : ((k.len : Int) != (k'.len : Int)) = false := by simp [hlen]
    have HLQ := Lib.hid hlen
    clear hlen hd hd'
    go_enter Tryd.func70, Tryd.ntmps70
    go_wp2_with fail
    go_loopg [17] k.len (fun g i wr => ∃ j : Nat, j ≤ k.len ∧ i = .int .i64 j ∧ g = k.len - j ∧ Below w.heap.size w wr ∧ Hid (sameF k k' = sameF (k.drop j) (k'.drop j)))
    case atStart => exact ⟨0, by omega, rfl, by omega, Below.refl _ _, by unfold Hid; simp⟩
    case round =>
    obtain ⟨j, hj, rfl, rfl, hbr, HN⟩ := hrel
    by_cases hlt : j < k.len
    · obtain ⟨a, b, hget⟩ := Fo.get_lt k j hlt
      obtain ⟨a', b', hget'⟩ := Fo.get_lt k' j (by rw [← HLQ.out]; exact hlt)
      obtain ⟨g1, o1, rfl, hS1, qa, qc, ja, jc, hcs, hda⟩ := (hdl.keep (S' := fun b => b < w.heap.size) (fun b h _ => hbr.block b h) (fun _ h _ => h)).get hget
      obtain ⟨g2, o2, rfl, hS2, qa', qc', ja', jc', hcs', hda'⟩ := (hdl'.keep (S' := fun b => b < w.heap.size) (fun b h _ => hbr.block b h) (fun _ h _ => h)).get hget'
      obtain ⟨m0, m1, m2, m3, m4, m5, m6, m7, m8, m9, m10⟩ := hcs.eleven
      have hw1 : Below wr.heap.size wr (wr.alloc (.cells (a.cells qa qc ja b.len jc) 28)) := bl_alloc (Below.refl _ _) _
      have hcs2 := hcs'.below hw1 (cell_lt (hcs'.eleven).1)
      obtain ⟨n0, n1, n2, n3, n4, n5, n6, n7, n8, n9, n10⟩ := hcs2.eleven
      have hw2 : Below wr.heap.size wr ((wr.alloc (.cells (a.cells qa qc ja b.len jc) 28)).alloc (.cells (a'.cells qa' qc' ja' b'.len jc') 28)) := bl_alloc hw1 _
      have HDr := Lib.hid (Fo.drop_get k j a b hget)
      have HDr' := Lib.hid (Fo.drop_get k' j a' b' hget')
      have hih := ih j a b a' b' hget hget' _ _ _ qa qc ja jc qa' qc' ja' jc' (hda.below hw2 (fun b _ h => h)) (hda'.below hw2 (fun b _ h => h))
      unfold Hd.cells at hih n0 n1 n2 n3 n4 n5 n6 n7 n8 n9 n10
      have HI := Lib.hid hih
      have hj1 : (j : Int) < (k.len : Int) := by omega
      have hj2 : (j : Int) < (k'.len : Int) := by have := HLQ.out; omega
      have hbr2 : Below w.heap.size w ((wr.alloc (.cells (a.cells qa qc ja b.len jc) 28)).alloc (.cells (a'.cells qa' qc' ja' b'.len jc') 28)) := bl_trans hbr hw2
      unfold Hd.cells at hbr2
      clear hih hget hget' hcs hcs' hda hda' hw1 hw2 hcs2
      go_wp2_with fail
      refine HI.out.mono ?_
      rintro e w2 ⟨rfl, hb2⟩
      have hbr3 := bl_trans hbr2 hb2
      clear HI m0 m1 m2 m3 m4 m5 m6 m7 m8 m9 m10 n0 n1 n2 n3 n4 n5 n6 n7 n8 n9 n10 hbr2 hb2
      cases hs : sameD a b a' b'
      · have HE : Hid (sameF k k' = false) := by
          unfold Hid; rw [HN.out, HDr.out, HDr'.out]; unfold sameD at hs; unfold sameF; rw [hs]; rfl
        go_wp2_with fail
        go_ret
        rw [HE.out]
        exact ⟨rfl, hbr3⟩
      · have HE : Hid (sameF k k' = sameF (k.drop (j + 1)) (k'.drop (j + 1))) := by
          unfold Hid; rw [HN.out, HDr.out, HDr'.out]; unfold sameD at hs; conv => lhs; unfold sameF
          rw [hs]; rfl
        go_wp2_with fail
        go_roundg (k.len - (j + 1))
        case measure => omega
        case rel => exact ⟨j + 1, by omega, by go_num, rfl, hbr3, HE⟩
    have hjl : j = k.len := by omega
    subst hjl
    have HE : Hid (sameF k k' = true) := by unfold Hid; rw [HN.out, Fo.drop_len k _ (Nat.le_refl _), Fo.drop_len k' _ (by rw [HLQ.out]; exact Nat.le_refl _)]; rfl
    go_wp2_with fail
    go_ret
    rw [HE.out]
    exact ⟨rfl, hbr⟩
  · have hne : ((k.len : Int) != (k'.len : Int)) = true := by rw [bne_iff_ne]; omega
    have HE : Hid (sameF k k' = false) := by
      unfold Hid
      cases e : sameF k k'
      · rfl
      · exact absurd (sameF_len _ _ e) hlen
    clear hlen
    go_enter Tryd.func70, Tryd.ntmps70
    go_wp2_with fail
    go_ret
    rw [HE.out]
    exact ⟨rfl, Below.refl _ _⟩
set_option maxRecDepth 100000 in
set_option maxHeartbeats 4000000 in
theorem same_one (h : Hd) (k : Fo) (h' : Hd) (k' : Fo) (ho : h.ok) (hk : k.ok) (hl : k.len ≤ 1034834473170) (ho' : h'.ok) (hk' : k'.ok) (hl' : k'.len ≤ 1034834473170) (ih : ∀ i a b a' b', k.get i = some (a, b) → k'.get i = some (a', b') → SameC a b a' b') : SameC h k h' k' := by
  intro w S T pa pc ia ic pa' pc' ia' ic' hd hd'
  unfold Hd.cells
  go_enter Tryd.func30, Tryd.ntmps30
  go_upto_region 0 with fail
  go_cut [0, 1, 2, 3] (fun _ _ t2 t3 wx => t2 = .pointer (some ⟨w.heap.size, 0, none⟩) ∧ t3 = .pointer (some ⟨w.heap.size + 1, 0, none⟩) ∧ Blk wx w.heap.size 28 (h.cells pa pc ia k.len ic) ∧ Blk wx (w.heap.size + 1) 28 (h'.cells pa' pc' ia' k'.len ic') ∧ Below w.heap.size w wx)
  case first =>
    go_wp2_with fail
    go_meet
    case rel => exact ⟨rfl, rfl, (Blk.new _ _ _).alloc _, Blk.new1 _ _ _ _, by ((repeat' (first | exact Below.refl _ _ | assumption | (refine bl_alloc ?_ _) | (refine Below.drew ?_) | (refine below_drewN ?_ _) | (refine Below.setCell ?_ ?_ _) | (refine bl_trans ?_ (by assumption)))) <;> first | omega | (simp; done) | (simp; omega))⟩
  case rest =>
  obtain ⟨rfl, rfl, hA, hB, hbw⟩ := hcut
  obtain ⟨k0, k1, k2, k3, k4, k5, k6, k7, k8, k9, k10⟩ := (CellsAt.of_blk hA).boxrg
  obtain ⟨l0, l1, l2, l3, l4, l5, l6, l7, l8, l9, l10⟩ := (CellsAt.of_blk hB).boxrg
  obtain ⟨w0, rfl⟩ : ∃ w0 : World, w0 = wc := ⟨_, rfl⟩
  go_upto_region 1 with fail
  go_cut [66] (fun t wx => t = .bool (!sameHd h h') ∧ Below w0.heap.size w0 wx)
  case first =>
    as_aux_lemma =>
      have hnk := neqKind h h'
      by_cases e0 : oneB h h' = true
      · skip
        have f0 : oneB h h' = true := e0
        rw [f0] at hnk
        clear e0
        by_cases e1 : h.n = h'.n
        · skip
          have g1 : (h.n != h'.n) = false := by rw [bne_eq_false_iff_eq]; exact e1
          have f1 : (h.n == h'.n) = true := by rw [beq_iff_eq]; exact e1
          clear e1
          by_cases e2 : h.f = h'.f
          · skip
            have g2 : (h.f != h'.f) = false := by rw [bne_eq_false_iff_eq]; exact e2
            have f2 : (h.f == h'.f) = true := by rw [beq_iff_eq]; exact e2
            clear e2
            by_cases e3 : h.s = h'.s
            · skip
              have g3 : (h.s.toList == h'.s.toList) = true := by rw [beq_str]; exact decide_eq_true e3
              have f3 : decide (h.s = h'.s) = true := decide_eq_true e3
              clear e3
              by_cases e4 : h.obj = h'.obj
              · skip
                have g4 : (h.obj != h'.obj) = false := by rw [bne_eq_false_iff_eq]; exact e4
                have f4 : (h.obj == h'.obj) = true := by rw [beq_iff_eq]; exact e4
                clear e4
                by_cases e5 : h.frm = h'.frm
                · skip
                  have g5 : (h.frm != h'.frm) = false := by rw [bne_eq_false_iff_eq]; exact e5
                  have f5 : (h.frm == h'.frm) = true := by rw [beq_iff_eq]; exact e5
                  clear e5
                  by_cases e6 : h.len = h'.len
                  · skip
                    have g6 : (h.len != h'.len) = false := by rw [bne_eq_false_iff_eq]; exact e6
                    have f6 : (h.len == h'.len) = true := by rw [beq_iff_eq]; exact e6
                    clear e6
                    by_cases e7 : h.cap = h'.cap
                    · skip
                      have g7 : (h.cap != h'.cap) = false := by rw [bne_eq_false_iff_eq]; exact e7
                      have f7 : (h.cap == h'.cap) = true := by rw [beq_iff_eq]; exact e7
                      clear e7
                      refine wp_region_below (by kernel_rfl) (by kernel_rfl) ?_
                      repeat (go_big_quiet_step ((first | (go_at_call_of 68 (Value.string h.type); exact Calls.regrown_of (kindOf_any h k.len pa pc ia ic _)) | (go_at_call_of 68 (Value.string h'.type); exact Calls.regrown_of (kindOf_any h' k'.len pa' pc' ia' ic' _)))))
                      refine wpQuiet_nil ?_
                      intro w1 hb1
                      go_wp2_with fail
                      go_meet
                      case rel => exact ⟨by rw [sameHd, f0, f1, f2, f3, f4, f5, f6, f7]; rfl, hb1⟩
                    · skip
                      have g7 : (h.cap != h'.cap) = true := by rw [bne_iff_ne]; exact e7
                      have f7 : (h.cap == h'.cap) = false := by rw [beq_eq_false_iff_ne]; exact e7
                      clear e7
                      refine wp_region_below (by kernel_rfl) (by kernel_rfl) ?_
                      repeat (go_big_quiet_step ((first | (go_at_call_of 68 (Value.string h.type); exact Calls.regrown_of (kindOf_any h k.len pa pc ia ic _)) | (go_at_call_of 68 (Value.string h'.type); exact Calls.regrown_of (kindOf_any h' k'.len pa' pc' ia' ic' _)))))
                      refine wpQuiet_nil ?_
                      intro w1 hb1
                      go_wp2_with fail
                      go_meet
                      case rel => exact ⟨by rw [sameHd, f0, f1, f2, f3, f4, f5, f6, f7]; rfl, hb1⟩
                  · skip
                    have g6 : (h.len != h'.len) = true := by rw [bne_iff_ne]; exact e6
                    have f6 : (h.len == h'.len) = false := by rw [beq_eq_false_iff_ne]; exact e6
                    clear e6
                    refine wp_region_below (by kernel_rfl) (by kernel_rfl) ?_
                    repeat (go_big_quiet_step ((first | (go_at_call_of 68 (Value.string h.type); exact Calls.regrown_of (kindOf_any h k.len pa pc ia ic _)) | (go_at_call_of 68 (Value.string h'.type); exact Calls.regrown_of (kindOf_any h' k'.len pa' pc' ia' ic' _)))))
                    refine wpQuiet_nil ?_
                    intro w1 hb1
                    go_wp2_with fail
                    go_meet
                    case rel => exact ⟨by rw [sameHd, f0, f1, f2, f3, f4, f5, f6]; rfl, hb1⟩
                · skip
                  have g5 : (h.frm != h'.frm) = true := by rw [bne_iff_ne]; exact e5
                  have f5 : (h.frm == h'.frm) = false := by rw [beq_eq_false_iff_ne]; exact e5
                  clear e5
                  refine wp_region_below (by kernel_rfl) (by kernel_rfl) ?_
                  repeat (go_big_quiet_step ((first | (go_at_call_of 68 (Value.string h.type); exact Calls.regrown_of (kindOf_any h k.len pa pc ia ic _)) | (go_at_call_of 68 (Value.string h'.type); exact Calls.regrown_of (kindOf_any h' k'.len pa' pc' ia' ic' _)))))
                  refine wpQuiet_nil ?_
                  intro w1 hb1
                  go_wp2_with fail
                  go_meet
                  case rel => exact ⟨by rw [sameHd, f0, f1, f2, f3, f4, f5]; rfl, hb1⟩
              · skip
                have g4 : (h.obj != h'.obj) = true := by rw [bne_iff_ne]; exact e4
                have f4 : (h.obj == h'.obj) = false := by rw [beq_eq_false_iff_ne]; exact e4
                clear e4
                refine wp_region_below (by kernel_rfl) (by kernel_rfl) ?_
                repeat (go_big_quiet_step ((first | (go_at_call_of 68 (Value.string h.type); exact Calls.regrown_of (kindOf_any h k.len pa pc ia ic _)) | (go_at_call_of 68 (Value.string h'.type); exact Calls.regrown_of (kindOf_any h' k'.len pa' pc' ia' ic' _)))))
                refine wpQuiet_nil ?_
                intro w1 hb1
                go_wp2_with fail
                go_meet
                case rel => exact ⟨by rw [sameHd, f0, f1, f2, f3, f4]; rfl, hb1⟩
            · skip
              have g3 : (h.s.toList == h'.s.toList) = false := by rw [beq_str]; exact decide_eq_false e3
              have f3 : decide (h.s = h'.s) = false := decide_eq_false e3
              clear e3
              refine wp_region_below (by kernel_rfl) (by kernel_rfl) ?_
              repeat (go_big_quiet_step ((first | (go_at_call_of 68 (Value.string h.type); exact Calls.regrown_of (kindOf_any h k.len pa pc ia ic _)) | (go_at_call_of 68 (Value.string h'.type); exact Calls.regrown_of (kindOf_any h' k'.len pa' pc' ia' ic' _)))))
              refine wpQuiet_nil ?_
              intro w1 hb1
              go_wp2_with fail
              go_meet
              case rel => exact ⟨by rw [sameHd, f0, f1, f2, f3]; rfl, hb1⟩
          · skip
            have g2 : (h.f != h'.f) = true := by rw [bne_iff_ne]; exact e2
            have f2 : (h.f == h'.f) = false := by rw [beq_eq_false_iff_ne]; exact e2
            clear e2
            refine wp_region_below (by kernel_rfl) (by kernel_rfl) ?_
            repeat (go_big_quiet_step ((first | (go_at_call_of 68 (Value.string h.type); exact Calls.regrown_of (kindOf_any h k.len pa pc ia ic _)) | (go_at_call_of 68 (Value.string h'.type); exact Calls.regrown_of (kindOf_any h' k'.len pa' pc' ia' ic' _)))))
            refine wpQuiet_nil ?_
            intro w1 hb1
            go_wp2_with fail
            go_meet
            case rel => exact ⟨by rw [sameHd, f0, f1, f2]; rfl, hb1⟩
        · skip
          have g1 : (h.n != h'.n) = true := by rw [bne_iff_ne]; exact e1
          have f1 : (h.n == h'.n) = false := by rw [beq_eq_false_iff_ne]; exact e1
          clear e1
          refine wp_region_below (by kernel_rfl) (by kernel_rfl) ?_
          repeat (go_big_quiet_step ((first | (go_at_call_of 68 (Value.string h.type); exact Calls.regrown_of (kindOf_any h k.len pa pc ia ic _)) | (go_at_call_of 68 (Value.string h'.type); exact Calls.regrown_of (kindOf_any h' k'.len pa' pc' ia' ic' _)))))
          refine wpQuiet_nil ?_
          intro w1 hb1
          go_wp2_with fail
          go_meet
          case rel => exact ⟨by rw [sameHd, f0, f1]; rfl, hb1⟩
      · skip
        have f0 : oneB h h' = false := by revert e0; cases oneB h h' <;> simp
        rw [f0] at hnk
        clear e0
        refine wp_region_below (by kernel_rfl) (by kernel_rfl) ?_
        repeat (go_big_quiet_step ((first | (go_at_call_of 68 (Value.string h.type); exact Calls.regrown_of (kindOf_any h k.len pa pc ia ic _)) | (go_at_call_of 68 (Value.string h'.type); exact Calls.regrown_of (kindOf_any h' k'.len pa' pc' ia' ic' _)))))
        refine wpQuiet_nil ?_
        intro w1 hb1
        go_wp2_with fail
        go_meet
        case rel => exact ⟨by rw [sameHd, f0]; rfl, hb1⟩
  case rest =>
  obtain ⟨rfl, hb1⟩ := hcut
  obtain ⟨w1, rfl⟩ : ∃ w1 : World, w1 = wc := ⟨_, rfl⟩
  have hbw1 := bl_trans hbw hb1
  have hA1 := hA.below hb1 hA.lt
  have hB1 := hB.below hb1 hB.lt
  clear hA hB hb1 hbw k0 k1 k2 k3 k4 k5 k6 k7 k8 k9 k10 l0 l1 l2 l3 l4 l5 l6 l7 l8 l9 l10
  cases hs : sameHd h h'
  · have HE : Hid (sameD h k h' k' = false) := by unfold Hid sameD; rw [hs]; rfl
    go_wp2_with fail
    go_ret
    rw [HE.out]
    exact ⟨rfl, hbw1⟩
  have hd1 := hd.below hbw1 (fun b _ h => h)
  have hd1' := hd'.below hbw1 (fun b _ h => h)
  obtain ⟨_, _, _, _, _, _, _, _, _, c9, c10⟩ := (CellsAt.of_blk hA1).box
  obtain ⟨_, _, _, _, _, _, _, _, _, d9, d10⟩ := (CellsAt.of_blk hB1).box
  have hpl : h.path.length ≤ 9223372036854775807 := by have := ho.path; omega
  have hpl' : h'.path.length ≤ 9223372036854775807 := by have := ho'.path; omega
  have hE := fun w2 hb2 => equalFunc_any k k' hk hk' hl hl' ih w2 S T ia ic ia' ic' (hd1.below (w' := w2) (B := w1.heap.size) hb2 (fun b _ h => h)).kids (hd1'.below (w' := w2) (B := w1.heap.size) hb2 (fun b _ h => h)).kids
  by_cases hp : h.path = h'.path
  · have HP : Hid (decide (h.path = h'.path) = true) := decide_eq_true hp
    have HE : Hid (sameD h k h' k' = sameF k k') := by unfold Hid sameD; rw [hs, decide_eq_true hp]; rfl
    clear hp hs
    go_wp2_with (go_at_call 69; refine (sEqual_any h.path h'.path pa pa' pc pc' w1 S T hpl hpl' hd1.path hd1'.path).mono ?_; rintro e w2 ⟨rfl, hb2⟩; rw [HP.out]; have hE2 := hE _ hb2; have hA2 := hA1.below hb2 hA1.lt; have hB2 := hB1.below hb2 hB1.lt; clear c9 c10 d9 d10; obtain ⟨_, _, _, _, _, _, _, _, _, c9, c10⟩ := (CellsAt.of_blk hA2).box; obtain ⟨_, _, _, _, _, _, _, _, _, d9, d10⟩ := (CellsAt.of_blk hB2).box)
    refine hE2.mono ?_
    rintro e w3 ⟨rfl, hb3⟩
    go_wp2_with fail
    go_ret
    rw [HE.out]
    exact ⟨rfl, bl_trans hbw1 (bl_trans hb2 hb3)⟩
  · have HP : Hid (decide (h.path = h'.path) = false) := decide_eq_false hp
    have HE : Hid (sameD h k h' k' = false) := by unfold Hid sameD; rw [hs, decide_eq_false hp]; rfl
    clear hp hs
    go_wp2_with (go_at_call 69; refine (sEqual_any h.path h'.path pa pa' pc pc' w1 S T hpl hpl' hd1.path hd1'.path).mono ?_; rintro e w2 ⟨rfl, hb2⟩; rw [HP.out])
    go_ret
    rw [HE.out]
    exact ⟨rfl, bl_trans hbw1 hb2⟩

theorem same_all : ∀ (f : Fo), f.ok → ∀ (g : Fo) (i : Nat) (a : Hd) (b : Fo) (a' : Hd) (b' : Fo), g.ok → f.get i = some (a, b) → g.get i = some (a', b') → SameC a b a' b'
  | .nil, _, g, i, a, b, a', b', _, e, _ => by simp [Fo.get] at e
  | .cons h k r, o, g, 0, a, b, a', b', og, e, e' => by
    simp only [Fo.get, Option.some.injEq, Prod.mk.injEq] at e
    obtain ⟨rfl, rfl⟩ := e
    obtain ⟨o1, o2, o3⟩ := Fo.ok_get g 0 a' b' og e'
    exact same_one _ _ _ _ o.1 o.2.1 o.2.2.2 o1 o2 o3 (fun i c d c' d' e e' => same_all k o.2.1 b' i c d c' d' o2 e e')
  | .cons h k r, o, .nil, i + 1, a, b, a', b', og, e, e' => by simp [Fo.get] at e'
  | .cons h k r, o, .cons h2 k2 r2, i + 1, a, b, a', b', og, e, e' => same_all r o.2.2.1 r2 i a b a' b' og.2.2.1 e e'
theorem same_any (h : Hd) (k : Fo) (h' : Hd) (k' : Fo) (ho : h.ok) (hk : k.ok) (hl : k.len ≤ 1034834473170) (ho' : h'.ok) (hk' : k'.ok) (hl' : k'.len ≤ 1034834473170) : SameC h k h' k' :=
  same_one h k h' k' ho hk hl ho' hk' hl' (fun i a b a' b' e e' => same_all k hk k' i a b a' b' hk' e e')
end Go.Proofs.YthdmmhiifkebeaaDoor
