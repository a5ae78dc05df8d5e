/-
  Contract of the law's own ordered: a right datum that is Ordered, of the kind that a number says. Written by an AI agent.
-/
import Derived.Test.YthdmmhiifkebeaaDoorMk2
import Derived.Test.YthdmmhiifkebeaaDoorVal8
import Derived.Laws.IdiomStrings
namespace Go.Proofs.YthdmmhiifkebeaaDoor
open Go.RowKit Go.Sort

def intS : ByteArray := ⟨#[105, 110, 116]⟩
def floatS : ByteArray := ⟨#[102, 108, 111, 97, 116]⟩
def textS : ByteArray := ⟨#[116, 101, 120, 116]⟩
def intH (n : Int) : Hd := ⟨2, intS, n, 0, emp, 0, 0, 0, 0, []⟩
def floatH (f : Int) : Hd := ⟨3, floatS, 0, f, emp, 0, 0, 0, 0, []⟩
def textH (s : ByteArray) : Hd := ⟨4, textS, 0, 0, s, 0, 0, 0, 0, []⟩
/-- One that is Ordered, of the kind that p says. -/
def OrdH (p : Int) (h : Hd) : Prop := (p = 0 ∧ ∃ n, okInt n ∧ h = intH n) ∨ (p = 1 ∧ ∃ f, okF64 f ∧ h = floatH f) ∨ (p = 2 ∧ ∃ s : ByteArray, s.size ≤ 4 ∧ h = textH s)
def OrdPost (p : Int) (g B : Nat) (a : Int) (w : World) (e : Ending) (w' : World) : Prop := ∃ h, OrdH p h ∧ e = .returned (.agg (h.cells none 0 none 0 0)) ∧ (∃ a', a ≤ a' ∧ a' ≤ a + 6 ∧ Mk w' g B a') ∧ w.grownBy w' (some g)
theorem conv_new (W : World) (v : UInt8) (t : TypeId) : (convert 148 9 (.slice (some ⟨W.heap.size, 0, none⟩) 1 1)).run Tryd.prog (W.alloc (.cells #[.int .u8 v.toNat] t)) = .ok (.string ⟨#[v]⟩) (W.alloc (.cells #[.int .u8 v.toNat] t)) :=
  run_convert_bytes_back _ _ _ 5 _ _ [v] Tryd.underlying148 Tryd.underlying5 Tryd.underlying9 (fun j hj => by
    have : j = 0 := by simpa using hj
    subst this
    simp [Addr.add])

theorem conv0 (W : World) (t : TypeId) : (convert 148 9 (.slice (some ⟨W.heap.size, 0, none⟩) 1 1)).run Tryd.prog (W.alloc (.cells #[.int .u8 0] t)) = .ok (.string ⟨#[0]⟩) (W.alloc (.cells #[.int .u8 0] t)) := conv_new W 0 t
theorem conv100 (W : World) (t : TypeId) : (convert 148 9 (.slice (some ⟨W.heap.size, 0, none⟩) 1 1)).run Tryd.prog (W.alloc (.cells #[.int .u8 100] t)) = .ok (.string ⟨#[100]⟩) (W.alloc (.cells #[.int .u8 100] t)) := conv_new W 100 t
theorem conv200 (W : World) (t : TypeId) : (convert 148 9 (.slice (some ⟨W.heap.size, 0, none⟩) 1 1)).run Tryd.prog (W.alloc (.cells #[.int .u8 200] t)) = .ok (.string ⟨#[200]⟩) (W.alloc (.cells #[.int .u8 200] t)) := conv_new W 200 t
theorem setCells_rest (b : Nat) : ∀ (vs : List Value) (o : Nat) (w : World), (w.setCells b o vs).os = w.os ∧ (w.setCells b o vs).tape = w.tape ∧ (w.setCells b o vs).output = w.output
  | [], _, _ => ⟨rfl, rfl, rfl⟩
  | v :: r, o, w => setCells_rest b r (o + 1) (w.setCell ⟨b, o, none⟩ v)
theorem size1 (bs : ByteArray) (v : UInt8) : (bs ++ ⟨#[v]⟩).size = bs.size + 1 := by rw [ByteArray.size_append]; rfl
theorem Mk.cells {g B : Nat} {a : Int} {R : Nat} (hR : g < R) : ∀ (vs : List Value) (o : Nat) (w : World), Mk w g B a → Mk (w.setCells R o vs) g B a
  | [], _, _, h => h
  | v :: r, o, _, h => Mk.cells hR r (o + 1) _ (h.far (p := ⟨R, o, none⟩) hR v)
theorem grown_cells {w w1 : World} {g R : Nat} (vs : List Value) (o : Nat) (h : w.grownBy w1 (some g)) (hR : w.heap.size ≤ R) : w.grownBy (w1.setCells R o vs) (some g) :=
  ⟨(setCells_rest R vs o w1).1.trans h.os, (setCells_rest R vs o w1).2.1.trans h.tape, (setCells_rest R vs o w1).2.2.trans h.output, by rw [setCells_size]; exact h.size, fun k hk hne => (setCells_heap R vs o w1 k (by omega)).trans (h.block k hk hne)⟩

set_option maxRecDepth 100000 in
set_option maxHeartbeats 1000000 in
theorem ordered_any (c : Int) (hc : okInt c) (g B : Nat) (a : Int) (ha : a ≤ 4611686018427387000) (w : World) (hm : Mk w g B a) :
    Calls Tryd.prog 34 #[.int .i64 c, .pointer (some ⟨g, 0, none⟩)] w (OrdPost (pickV c 3) g B a w) := by
  have hg := hm.lt
  have hpr := pickV_range c 3 (by decide)
  go_enter Tryd.func34, Tryd.ntmps34
  go_upto_region 0 with fail
  go_cut [4] (fun t wx => t = .pointer (some ⟨w.heap.size, 0, none⟩) ∧ (∃ cs, cs.size = 11 ∧ Blk wx w.heap.size 28 cs) ∧ Below w.heap.size w wx)
  case first =>
    go_wp2_with fail
    go_meet
    case rel => exact ⟨rfl, ⟨_, by rfl, Blk.new _ _ _⟩, by ((repeat' (first | exact Below.refl _ _ | assumption | (refine bl_alloc ?_ _) | (refine Below.drew ?_) | (refine below_drewN ?_ _) | (refine Below.setCell ?_ ?_ _) | (refine bl_trans ?_ (by assumption)))) <;> first | omega | (simp; done) | (simp; omega))⟩
  case rest =>
  obtain ⟨rfl, hR, hb0⟩ := hcut
  obtain ⟨w0, rfl⟩ : ∃ w0 : World, w0 = wc := ⟨_, rfl⟩
  have HR := Lib.hid hR
  have hm0 := hm.below hb0
  clear hR hm
  go_upto_region 1 with fail
  go_cut [8] (fun t wx => t = .int .i64 (pickV c 3) ∧ w0 = wx)
  case first =>
    go_wp2_with fail
    refine (pick_any c 3 hc (by decide) (by decide) w0).mono ?_
    rintro e w1 ⟨rfl, rfl⟩
    go_wp2_with fail
    go_meet
    case rel => exact ⟨rfl, rfl⟩
  case rest =>
  obtain ⟨rfl, rfl⟩ := hcut
  obtain ⟨p, hp⟩ : ∃ p, pickV c 3 = p := ⟨_, rfl⟩
  rw [hp] at hpr ⊢
  have HP := Lib.hid hp
  clear hp
  have hp3 : p = 0 ∨ p = 1 ∨ p = 2 := by omega
  rcases hp3 with rfl | rfl | rfl
  · clear hpr
    go_wp2_with fail
    refine (raw_any g B a (by omega) w0 hm0).mono ?_
    rintro e w1 ⟨n, hn, rfl, hm1, hg1⟩
    obtain ⟨cs, hcs, hR0⟩ := HR.out
    have hR1 := hR0.grown hg1 (by simp; omega)
    have hfr := fun j => hR1.frozen j
    obtain ⟨v0, v1, v2, v3, v4, v5, v6, v7, v8, v9, v10, q0, q1, q2, q3, q4, q5, q6, q7, q8, q9, q10⟩ := hR1.eleven hcs
    have hM : ∃ a', a ≤ a' ∧ a' ≤ a + 6 ∧ Mk (w1.setCells w.heap.size 0 ((intH n).cells none 0 none 0 0).toList) g B a' := ⟨a + 1, by omega, by omega, Mk.cells hg _ _ _ hm1⟩
    have hG : w.grownBy (w1.setCells w.heap.size 0 ((intH n).cells none 0 none 0 0).toList) (some g) := grown_cells _ _ (grown_below_left hb0 hg1) (Nat.le_refl _)
    go_wp2_with fail
    exact bodyPost_ret (v := .agg ((intH n).cells none 0 none 0 0)) (by simp [results, Tryd.results34, go_sem, q0, q1, q2, q3, q4, q5, q6, q7, q8, q9, q10, Hd.cells, intH, intS, emp]) rfl ⟨intH n, .inl ⟨HP.out, n, hn, rfl⟩, rfl, hM, hG⟩
  · clear hpr
    go_wp2_with fail
    refine (float_any g B a (by omega) w0 hm0).mono ?_
    rintro e w1 ⟨f, hf, rfl, ⟨a1, ha1, ha2, hm1⟩, hg1⟩
    obtain ⟨cs, hcs, hR0⟩ := HR.out
    have hR1 := hR0.grown hg1 (by simp; omega)
    have hfr := fun j => hR1.frozen j
    obtain ⟨v0, v1, v2, v3, v4, v5, v6, v7, v8, v9, v10, q0, q1, q2, q3, q4, q5, q6, q7, q8, q9, q10⟩ := hR1.eleven hcs
    have hM : ∃ a', a ≤ a' ∧ a' ≤ a + 6 ∧ Mk (w1.setCells w.heap.size 0 ((floatH f).cells none 0 none 0 0).toList) g B a' := ⟨a1, by omega, by omega, Mk.cells hg _ _ _ hm1⟩
    have hG : w.grownBy (w1.setCells w.heap.size 0 ((floatH f).cells none 0 none 0 0).toList) (some g) := grown_cells _ _ (grown_below_left hb0 hg1) (Nat.le_refl _)
    go_wp2_with fail
    exact bodyPost_ret (v := .agg ((floatH f).cells none 0 none 0 0)) (by simp [results, Tryd.results34, go_sem, q0, q1, q2, q3, q4, q5, q6, q7, q8, q9, q10, Hd.cells, floatH, floatS, emp]) rfl ⟨floatH f, .inr (.inl ⟨HP.out, f, hf, rfl⟩), rfl, hM, hG⟩
  · clear hpr
    go_wp2_with fail
    refine (next_any 5 (by decide) (by decide) g B a (by omega) w0 hm0).mono ?_
    rintro e w1 ⟨m0, hm0l, hm0u, rfl, hm1, hg1⟩
    have hG1 := grown_below_left hb0 hg1
    have HR1 : Hid (∃ cs, cs.size = 11 ∧ Blk w1 w.heap.size 28 cs) := by
      obtain ⟨cs, hcs, hR0⟩ := HR.out
      exact ⟨cs, hcs, hR0.grown hg1 (by simp; omega)⟩
    clear hg1 HR hm0
    go_wp2_with fail
    go_loopg [5, 6] m0.toNat (fun gk t i wr => ∃ (bs : ByteArray) (m a1 : Int), t = .string bs ∧ i = .int .i64 m ∧ 0 ≤ m ∧ m ≤ 4 ∧ gk = m.toNat ∧ bs.size + m ≤ 4 ∧ a ≤ a1 ∧ a1 + m ≤ a + 6 ∧ Mk wr g B a1 ∧ w.grownBy wr (some g) ∧ Hid (∃ cs, cs.size = 11 ∧ Blk wr w.heap.size 28 cs))
    case atStart => exact ⟨⟨#[]⟩, m0, a + 1, rfl, rfl, hm0l, by omega, rfl, by have : (⟨#[]⟩ : ByteArray).size = 0 := rfl; omega, by omega, by omega, hm1, hG1, HR1⟩
    case round =>
    obtain ⟨bs, m, a1, rfl, rfl, hm1, hm2, rfl, hbs, ha1, ha2, hmk, hgr, hRr⟩ := hrel
    clear HR1 hG1 hm0l hm0u
    by_cases hmp : 0 < m
    · go_wp2_with fail
      refine (next_any 3 (by decide) (by decide) g B a1 (by omega) wr hmk).mono ?_
      rintro e w2 ⟨d, hd0, hd1, rfl, hmk2, hg2⟩
      have hgr2 := grown_trans hgr hg2
      have hRr2 : Hid (∃ cs, cs.size = 11 ∧ Blk w2 w.heap.size 28 cs) := by
        obtain ⟨cs, hcs, hR0⟩ := hRr.out
        exact ⟨cs, hcs, hR0.grown hg2 (by simp; omega)⟩
      clear hmk hgr hRr hg2
      have hc0 := conv0 w2
      have hc1 := conv100 w2
      have hc2 := conv200 w2
      have hRr3 : ∀ o, Hid (∃ cs, cs.size = 11 ∧ Blk (w2.alloc o) w.heap.size 28 cs) := fun o => by
        obtain ⟨cs, hcs, hR0⟩ := hRr2.out
        exact ⟨cs, hcs, hR0.alloc o⟩
      have hmk3 : ∀ o, Mk (w2.alloc o) g B (a1 + 1) := fun o => hmk2.below (bl_alloc (Below.refl _ _) o)
      have hgr3 : ∀ o, w.grownBy (w2.alloc o) (some g) := fun o => grown_alloc hgr2 o
      have hd3 : d = 0 ∨ d = 1 ∨ d = 2 := by omega
      rcases hd3 with rfl | rfl | rfl
      all_goals
        go_wp2_with fail
        go_roundg ((m - 1).toNat)
        case measure => omega
        case rel => exact ⟨_, m - 1, a1 + 1, rfl, by go_num, by omega, by omega, rfl, by rw [size1]; omega, by omega, by omega, hmk3 _, hgr3 _, hRr3 _⟩
    · have hmz : m = 0 := by omega
      subst hmz
      obtain ⟨cs, hcs, hR1⟩ := hRr.out
      have hfr := fun j => hR1.frozen j
      obtain ⟨v0, v1, v2, v3, v4, v5, v6, v7, v8, v9, v10, q0, q1, q2, q3, q4, q5, q6, q7, q8, q9, q10⟩ := hR1.eleven hcs
      have hM : ∃ a', a ≤ a' ∧ a' ≤ a + 6 ∧ Mk (wr.setCells w.heap.size 0 ((textH bs).cells none 0 none 0 0).toList) g B a' := ⟨a1, by omega, by omega, Mk.cells hg _ _ _ hmk⟩
      have hG : w.grownBy (wr.setCells w.heap.size 0 ((textH bs).cells none 0 none 0 0).toList) (some g) := grown_cells _ _ hgr (Nat.le_refl _)
      have hbs4 : bs.size ≤ 4 := by omega
      go_wp2_with fail
      exact bodyPost_ret (v := .agg ((textH bs).cells none 0 none 0 0)) (by simp [results, Tryd.results34, go_sem, q0, q1, q2, q3, q4, q5, q6, q7, q8, q9, q10, Hd.cells, textH, textS]) rfl ⟨textH bs, .inr (.inr ⟨HP.out, bs, hbs4, rfl⟩), rfl, hM, hG⟩
end Go.Proofs.YthdmmhiifkebeaaDoor
