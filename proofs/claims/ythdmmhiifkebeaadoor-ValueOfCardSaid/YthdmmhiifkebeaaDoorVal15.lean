/-
  Contract of value.Hash. Written by an AI agent.
-/
import Derived.Test.YthdmmhiifkebeaaDoorVal14
namespace Go.Proofs.YthdmmhiifkebeaaDoor
open Go.RowKit Go.Sort

def hd0 : Hd := ⟨0, emp, 0, 0, emp, 0, 0, 0, 0, []⟩
theorem hd0_ok : hd0.ok := by constructor <;> simp [hd0, emp, okInt, ByteArray.size]
theorem hd0_at (w : World) : DatAt w (fun _ => False) hd0 .nil none 0 none 0 := ⟨Or.inl rfl, Nat.le_refl _, by omega, Or.inl rfl, Nat.le_refl _, by omega⟩
/-- A right key's number. -/
def hashV (h : Hd) (k : Fo) : Int := match tyO h k with | none => hashD hd0 .nil | some _ => hashD h k
def HashPost (h : Hd) (k : Fo) (w : World) (e : Ending) (w' : World) : Prop := Below w.heap.size w w' ∧ ∃ n v, e = .returned (.tuple #[.int .u64 n, v]) ∧ KeyV h k w w' v ∧ n = if (rightB h k && keyB h k) = true then hashV h k else 0

set_option maxRecDepth 100000 in
set_option maxHeartbeats 4000000 in
theorem Hash_any (h : Hd) (k : Fo) (ho : h.ok) (hk : k.ok) (hl : k.len ≤ 1034834473170) (w : World) (S : Nat → Prop) (pa : Option Addr) (pc : Nat) (ia : Option Addr) (ic : Nat) (hd : DatAt w S h k pa pc ia ic) (hown : OwnAt w) :
    Calls Tryd.prog 26 #[.agg (h.cells pa pc ia k.len ic)] w (HashPost h k w) := by
  unfold Hd.cells
  go_enter Tryd.func26, Tryd.ntmps26
  go_upto_region 0 with fail
  go_cut [0, 1] (fun _ t1 wx => t1 = .pointer (some ⟨w.heap.size, 0, none⟩) ∧ Blk wx w.heap.size 28 (h.cells pa pc ia k.len ic) ∧ Below w.heap.size w wx)
  case first =>
    go_wp2_with fail
    go_meet
    case rel => exact ⟨rfl, Blk.new _ _ _, by ((repeat' (first | exact Below.refl _ _ | assumption | (refine bl_alloc ?_ _) | (refine Below.drew ?_) | (refine below_drewN ?_ _) | (refine Below.setCell ?_ ?_ _) | (refine bl_trans ?_ (by assumption)))) <;> first | omega | (simp; done) | (simp; omega))⟩
  case rest =>
  obtain ⟨rfl, hA, hbw⟩ := hcut
  obtain ⟨w0, rfl⟩ : ∃ w0 : World, w0 = wc := ⟨_, rfl⟩
  obtain ⟨c0, c1, c2, c3, c4, c5, c6, c7, c8, c9, c10⟩ := (CellsAt.of_blk hA).box
  have hO := key_any h k ho hk hl w0 S pa pc ia ic (hd.below hbw (fun b _ h => h)) (hown.below hbw (Nat.le_refl _))
  unfold Hd.cells at hO
  have HO := Lib.hid hO
  clear hO
  go_wp2_with fail
  refine HO.out.mono ?_
  rintro e w1 ⟨hb1, v, rfl, hv⟩
  have hbw1 := bl_trans hbw hb1
  have hA1 := hA.below hb1 hA.lt
  clear HO c0 c1 c2 c3 c4 c5 c6 c7 c8 c9 c10 hA hb1
  by_cases hr : (rightB h k && keyB h k) = true
  · have hr1 : rightB h k = true := by revert hr; cases rightB h k <;> simp
    have hr2 : keyB h k = true := by revert hr; cases keyB h k <;> simp
    unfold KeyV at hv
    rw [if_pos hr1, if_pos hr2] at hv
    subst hv
    have HR1 := Lib.hid hr1
    have HP : Hid (∀ w', Below w.heap.size w w' → HashPost h k w (.returned (.tuple #[.int .u64 (hashV h k), .nilIface])) w') := fun w' hb =>
      ⟨hb, _, _, rfl, by unfold KeyV; rw [if_pos hr1, if_pos hr2], by rw [if_pos hr]⟩
    obtain ⟨c0, c1, c2, c3, c4, c5, c6, c7, c8, c9, c10⟩ := (CellsAt.of_blk hA1).box
    have hO := of_any h k ho hk hl w1 S pa pc ia ic (hd.below hbw1 (fun b _ h => h)) (hown.below hbw1 (Nat.le_refl _))
    unfold Hd.cells at hO
    have HO := Lib.hid hO
    clear hO hr hr1
    go_wp2_with fail
    refine HO.out.mono ?_
    rintro e w2 ⟨hb2, he⟩
    rw [if_pos HR1.out] at he
    obtain ⟨v, rfl, hv⟩ := he
    have hbw2 := bl_trans hbw1 hb2
    clear HO c0 c1 c2 c3 c4 c5 c6 c7 c8 c9 c10
    cases et : tyO h k with
    | none =>
      unfold ValAt at hv
      rw [et] at hv
      subst hv
      have HV : Hid (hashV h k = hashD hd0 .nil) := by unfold Hid hashV; rw [et]
      have hn := assert_keyed_nil
      have hh := hash_any hd0 .nil hd0_ok trivial (by simp [Fo.len]) w2 (fun _ => False) none 0 none 0 (hd0_at w2)
      unfold Hd.cells hd0 emp at hh
      simp only [List.length_nil, Fo.len] at hh
      have HH := Lib.hid hh
      clear hh
      go_wp2_with fail
      refine HH.out.mono ?_
      rintro e w3 ⟨rfl, hb3⟩
      go_wp2_with fail
      go_ret2
      have := HP.out _ (bl_trans hbw2 hb3)
      rw [HV.out] at this
      exact this
    | some t =>
      unfold ValAt at hv
      rw [et] at hv
      obtain ⟨qa, qc, ja, jc, rfl, hdv⟩ := hv
      have ht := tyO_val et
      have HV : Hid (hashV h k = hashD h k) := by unfold Hid hashV; rw [et]
      have hkt : keyedT t = true := by unfold keyB at hr2; rw [et] at hr2; exact hr2
      have hn := assert_keyed ht
      rw [hkt] at hn
      rcases ht with rfl | rfl | rfl | rfl | rfl | rfl | rfl | rfl <;> try (exact absurd hkt (by decide))
      · have hm := truth_hash
        have hh := truthHash_any h k ho hk hl w2 _ qa qc ja jc hdv
        unfold Hd.cells at hh ⊢
        have HH := Lib.hid hh
        clear hh hkt
        go_wp2_with fail
        refine HH.out.mono ?_
        rintro e w3 ⟨rfl, hb3⟩
        go_wp2_with fail
        go_ret2
        have := HP.out _ (bl_trans hbw2 hb3)
        rw [HV.out] at this
        exact this
      · have hm := figure_hash
        have hh := figureHash_any h k ho hk hl w2 _ qa qc ja jc hdv
        unfold Hd.cells at hh ⊢
        have HH := Lib.hid hh
        clear hh hkt
        go_wp2_with fail
        refine HH.out.mono ?_
        rintro e w3 ⟨rfl, hb3⟩
        go_wp2_with fail
        go_ret2
        have := HP.out _ (bl_trans hbw2 hb3)
        rw [HV.out] at this
        exact this
      · have hm := letter_hash
        have hh := letterHash_any h k ho hk hl w2 _ qa qc ja jc hdv
        unfold Hd.cells at hh ⊢
        have HH := Lib.hid hh
        clear hh hkt
        go_wp2_with fail
        refine HH.out.mono ?_
        rintro e w3 ⟨rfl, hb3⟩
        go_wp2_with fail
        go_ret2
        have := HP.out _ (bl_trans hbw2 hb3)
        rw [HV.out] at this
        exact this
      · have hm := arrow_hash
        have hh := arrowHash_any h k ho hk hl w2 _ qa qc ja jc hdv
        unfold Hd.cells at hh ⊢
        have HH := Lib.hid hh
        clear hh hkt
        go_wp2_with fail
        refine HH.out.mono ?_
        rintro e w3 ⟨rfl, hb3⟩
        go_wp2_with fail
        go_ret2
        have := HP.out _ (bl_trans hbw2 hb3)
        rw [HV.out] at this
        exact this
      · have hm := filed_hash
        have hh := filedHash_any h k ho hk hl w2 _ qa qc ja jc hdv
        unfold Hd.cells at hh ⊢
        have HH := Lib.hid hh
        clear hh hkt
        go_wp2_with fail
        refine HH.out.mono ?_
        rintro e w3 ⟨rfl, hb3⟩
        go_wp2_with fail
        go_ret2
        have := HP.out _ (bl_trans hbw2 hb3)
        rw [HV.out] at this
        exact this
  · have HE : Hid (∀ w' v, Below w.heap.size w w' → KeyV h k w w' v → HashPost h k w (.returned (.tuple #[.int .u64 0, v])) w') := fun w' v hb hv =>
      ⟨hb, _, _, rfl, hv, by rw [if_neg hr]⟩
    have HKV := Lib.hid hv
    have hif : ∃ t g, v = .iface t (.pointer (some ⟨g, 0, none⟩)) := by
      unfold KeyV at hv
      split at hv
      · rename_i h1
        split at hv
        · rename_i h2
          exact absurd (by rw [h1, h2]; rfl) hr
        · obtain ⟨g, rfl, _⟩ := hv; exact ⟨_, _, rfl⟩
      · obtain ⟨g, rfl, _⟩ := hv; exact ⟨_, _, rfl⟩
    obtain ⟨t, g, rfl⟩ := hif
    clear hr hv
    go_wp2_with fail
    go_ret2
    refine HE.out _ _ hbw1 ?_
    have := HKV.out
    unfold KeyV at this ⊢
    split at this
    · rename_i h1
      rw [if_pos h1]
      split at this
      · cases this
      · rename_i h2; rw [if_neg h2]; exact this.from hbw.size
    · rename_i h1
      rw [if_neg h1]
      exact this.from hbw.size
end Go.Proofs.YthdmmhiifkebeaaDoor
