/-
  Contract of the law's own (*Maker).simple: a right datum without items. Written by an AI agent.
-/
import Derived.Test.YthdmmhiifkebeaaDoorMk4
import Derived.Deep.CutBlock
namespace Go.Proofs.YthdmmhiifkebeaaDoor
open Go.RowKit Go.Sort

def TyOk (c : Int) (ty : ByteArray) : Prop := namedB (bH c ty) = true ∧ ty.size ≤ 40
theorem hd_ok {c n f obj frm len cap : Int} {ty s : ByteArray} {l : List Int} (hc : 0 ≤ c ∧ c ≤ 9) (hn : okInt n) (hf : 0 ≤ f ∧ f ≤ 18446744073709551615) (ho : 0 ≤ obj ∧ obj ≤ 9) (hr : 0 ≤ frm ∧ frm ≤ 9) (hl : 0 ≤ len ∧ len ≤ 9) (hp : 0 ≤ cap ∧ cap ≤ 9) (ht : ty.size ≤ 40) (hs : s.size ≤ 40)
    (hpl : l.length ≤ 2) (hpe : ∀ x ∈ l, x = 0 ∨ x = 1) : Hd.ok ⟨c, ty, n, f, s, obj, frm, len, cap, l⟩ :=
  ⟨⟨by show -9223372036854775808 ≤ c; omega, by show c ≤ 9223372036854775807; omega⟩, hn, hf.1, hf.2, ⟨by show -9223372036854775808 ≤ obj; omega, by show obj ≤ 9223372036854775807; omega⟩, ⟨by show -9223372036854775808 ≤ frm; omega, by show frm ≤ 9223372036854775807; omega⟩, ⟨by show -9223372036854775808 ≤ len; omega, by show len ≤ 9223372036854775807; omega⟩,
    ⟨by show -9223372036854775808 ≤ cap; omega, by show cap ≤ 9223372036854775807; omega⟩, by show ty.size ≤ 140737488351232; omega, by show s.size ≤ 140737488351232; omega, by show l.length ≤ 17592186043904; omega, fun j x hx => by
      rcases hpe x (List.mem_of_getElem? hx) with rfl | rfl <;> exact ⟨by decide, by decide⟩⟩
theorem ok0 : okInt 0 := ⟨by decide, by decide⟩
theorem okS {n : Int} (h0 : 0 ≤ n) (h9 : n ≤ 9) : okInt n := ⟨by omega, by omega⟩
theorem anyOut_small {l : List Int} (h : ∀ x ∈ l, x = 0 ∨ x = 1) : anyOut l = false := by
  unfold anyOut
  rw [List.any_eq_false]
  intro x hx
  rcases h x hx with rfl | rfl <;> decide
theorem leads_ref {k o : Int} {l : List Int} (hk : k = 6 ∨ k = 7 ∨ k = 9) (h0 : 0 ≤ o) (h9 : o ≤ 9) (hl : l.length ≤ 2) (he : ∀ x ∈ l, x = 0 ∨ x = 1) (hp : l = [] ∨ (k = 9 ∧ 0 < o)) : leadsB k o 0 0 0 l = true := by
  unfold leadsB
  rw [if_neg (by omega), if_neg (by omega), if_pos (by omega), if_neg ?_, anyOut_small he]
  · rfl
  · rintro (h | h | h | ⟨h1, h2⟩ | h)
    · exact h rfl
    · exact h rfl
    · exact h rfl
    · rcases hp with rfl | ⟨h3, h4⟩
      · simp at h1
      · rcases h2 with h2 | h2 <;> omega
    · omega
theorem leads_mk {o f l c : Int} (h : (o = 0 ∧ f = 0 ∧ l = 0 ∧ c = 0) ∨ (0 < o ∧ o ≤ 9 ∧ 0 ≤ f ∧ f ≤ 9 ∧ 0 ≤ l ∧ l ≤ c ∧ c ≤ 9)) : leadsB 5 o f l c [] = true := by
  unfold leadsB
  rw [if_neg (by omega), if_pos rfl]
  rcases h with ⟨rfl, rfl, rfl, rfl⟩ | h
  · rfl
  · rw [decide_eq_true (show 0 < o ∧ 0 ≤ f ∧ 0 ≤ l ∧ l ≤ c ∧ f ≤ 1048576 ∧ c ≤ 1048576 - f by omega)]; simp
def texts : Array Value := #[.string ⟨#[]⟩, .string ⟨#[97]⟩, .string ⟨#[97, 98]⟩, .string ⟨#[98]⟩, .string ⟨#[0]⟩, .string ⟨#[255]⟩]
theorem texts_ok (j : Nat) (hj : j < 6) : ∃ s : ByteArray, texts[j]? = some (.string s) ∧ s.size ≤ 40 := by
  have h : j = 0 ∨ j = 1 ∨ j = 2 ∨ j = 3 ∨ j = 4 ∨ j = 5 := by omega
  rcases h with rfl | rfl | rfl | rfl | rfl | rfl
  all_goals exact ⟨_, rfl, by decide⟩
def kinds : Array Value := #[.string ⟨#[]⟩, .string ⟨#[98, 111, 111, 108]⟩, .string ⟨#[105, 110, 116]⟩, .string ⟨#[102, 108, 111, 97, 116]⟩, .string ⟨#[116, 101, 120, 116]⟩, .string ⟨#[108, 105, 115, 116]⟩, .string ⟨#[109, 97, 112]⟩, .string ⟨#[102, 117, 110, 99]⟩, .string ⟨#[]⟩, .string ⟨#[84]⟩]
theorem kinds_ok (j : Nat) (hj : (0 < j ∧ j < 8) ∨ j = 9) : ∃ s : ByteArray, kinds[j]? = some (.string s) ∧ TyOk j s := by
  have h : j = 1 ∨ j = 2 ∨ j = 3 ∨ j = 4 ∨ j = 5 ∨ j = 6 ∨ j = 7 ∨ j = 9 := by omega
  rcases h with rfl | rfl | rfl | rfl | rfl | rfl | rfl | rfl
  all_goals exact ⟨_, rfl, by decide, by decide⟩
theorem run_kinds (w : World) : (Instr.buildSlice 146 10 #[(0, .string ⟨#[]⟩), (1, .string ⟨#[98, 111, 111, 108]⟩), (2, .string ⟨#[105, 110, 116]⟩), (3, .string ⟨#[102, 108, 111, 97, 116]⟩), (4, .string ⟨#[116, 101, 120, 116]⟩), (5, .string ⟨#[108, 105, 115, 116]⟩), (6, .string ⟨#[109, 97, 112]⟩), (7, .string ⟨#[102, 117, 110, 99]⟩), (8, .string ⟨#[]⟩), (9, .string ⟨#[84]⟩)]).run Tryd.prog w = .ok (.slice (some ⟨w.heap.size, 0, none⟩) 10 10) (w.alloc (.cells kinds 9)) := by kernel_rfl
theorem wpList_kinds (w : World) {ops : Array Oper} {rest : List Oper} {o : Oper} {s : Act} {Q : Exit → Act → World → Prop} (hg : o.guard = none) (hop : o.op = Op.buildSlice 146 10 #[(0, .const (.string ⟨#[]⟩)), (1, .const (.string ⟨#[98, 111, 111, 108]⟩)), (2, .const (.string ⟨#[105, 110, 116]⟩)), (3, .const (.string ⟨#[102, 108, 111, 97, 116]⟩)), (4, .const (.string ⟨#[116, 101, 120, 116]⟩)), (5, .const (.string ⟨#[108, 105, 115, 116]⟩)), (6, .const (.string ⟨#[109, 97, 112]⟩)), (7, .const (.string ⟨#[102, 117, 110, 99]⟩)), (8, .const (.string ⟨#[]⟩)), (9, .const (.string ⟨#[84]⟩))])
    (hK : ∀ W, W = w.alloc (.cells kinds 9) → wpList Tryd.prog ops Q rest (s.put o.dst (.slice (some ⟨w.heap.size, 0, none⟩) 10 10)) W) : wpList Tryd.prog ops Q (o :: rest) s w := by
  refine wpList_plain hg fun K hK' => ?_
  unfold Oper.wp
  have hr := run_kinds w
  simp [execOp, hop, Act.eval, hr, Result.andThen]
  exact hK' _ _ (hK _ rfl)
def PtrAt (g B D : Nat) (lo a o j : Int) (ty : ByteArray) (w wr : World) : Prop := ∃ p pa pc a2 l, SD w wr g B D a2 ⟨9, ty, 0, 0, emp, o, 0, 0, 0, l⟩ p pa pc ∧ lo ≤ a2 ∧ a2 + j ≤ a ∧ l.length + j ≤ 2 ∧ (∀ x ∈ l, x = 0 ∨ x = 1) ∧ (l = [] ∨ 0 < o)
def SimpDone (g B D : Nat) (a : Int) (w wx : World) : Prop := ∃ h p pa pc a2, SD w wx g B D a2 h p pa pc ∧ a ≤ a2 ∧ a2 ≤ a + 9 ∧ h.ok ∧ headB h 0 = true
def TypDone (g B D : Nat) (a c : Int) (w wx : World) : Prop := ∃ ty a2, TyOk c ty ∧ SD w wx g B D a2 (bH c ty) (.slice none 0 0) none 0 ∧ a ≤ a2 ∧ a2 ≤ a + 3
theorem ty_decl {c : Int} {ty : ByteArray} (h0 : 0 < c) (hd : declB ty = true) (hs : ty.size ≤ 40) : TyOk c ty := by
  refine ⟨?_, hs⟩
  unfold namedB
  show (if c < 8 then (decide (c ≠ 0) && (declB ty || decide (ty = ownOf c))) || (decide (c = 0) && decide (ty.size = 0)) else declB ty) = true
  rw [hd]
  by_cases h8 : c < 8
  · rw [if_pos h8, decide_eq_true (show c ≠ 0 by omega)]; rfl
  · rw [if_neg h8]
theorem decl_T : declB ⟨#[84]⟩ = true := by decide
theorem decl_U : declB ⟨#[85]⟩ = true := by decide
theorem SD.kind {w wx : World} {g B D : Nat} {a c c' : Int} (s : SD w wx g B D a (bH c emp) (.slice none 0 0) none 0) : SD w (wx.setCell ⟨D, 0, none⟩ (.int .i64 c')) g B D a (bH c' emp) (.slice none 0 0) none 0 := s.set 0 _ rfl rfl
theorem SD.type {w wx : World} {g B D : Nat} {a c : Int} {ty ty' : ByteArray} (s : SD w wx g B D a (bH c ty) (.slice none 0 0) none 0) : SD w (wx.setCell ⟨D, 1, none⟩ (.string ty')) g B D a (bH c ty') (.slice none 0 0) none 0 := s.set 1 _ rfl rfl

set_option maxRecDepth 100000 in
set_option maxHeartbeats 40000000 in
theorem simple_any (g B : Nat) (a : Int) (ha : a ≤ 4611686018427386000) (w : World) (hm : Mk w g B a) :
    Calls Tryd.prog 72 #[.pointer (some ⟨g, 0, none⟩)] w (SimpPost g B a w) := by
  have hg := hm.lt
  go_enter Tryd.func72, Tryd.ntmps72
  go_upto_region 0 with fail
  go_cut [2] (fun t wx => t = .pointer (some ⟨w.heap.size, 0, none⟩) ∧ (∃ cs, cs.size = 11 ∧ Blk wx w.heap.size 28 cs) ∧ Below w.heap.size w wx)
  case first =>
    go_wp2_with fail
    go_meet
    case rel => exact ⟨rfl, ⟨_, by rfl, Blk.new _ _ _⟩, by ((repeat' (first | exact Below.refl _ _ | assumption | (refine bl_alloc ?_ _) | (refine Below.drew ?_) | (refine below_drewN ?_ _) | (refine Below.setCell ?_ ?_ _) | (refine bl_trans ?_ (by assumption)))) <;> first | omega | (simp; done) | (simp; omega))⟩
  case rest =>
  obtain ⟨rfl, hR, hb0⟩ := hcut
  obtain ⟨w0, rfl⟩ : ∃ w0 : World, w0 = wc := ⟨_, rfl⟩
  have HR := Lib.hid hR
  have hm0 := hm.below hb0
  clear hR hm
  go_upto_region 1 with fail
  go_cut [3] (fun t wx => ∃ D c, t = .pointer (some ⟨D, 0, none⟩) ∧ 0 ≤ c ∧ c < 9 ∧ SD w wx g B D (a + 1) (bH c emp) (.slice none 0 0) none 0)
  case first =>
    as_aux_lemma =>
      have hs0 := hb0.size
      have hlt : w.heap.size < w0.heap.size := by obtain ⟨cs, _, h⟩ := HR.out; exact h.lt
      go_wp2_with fail
      refine (next_any 9 (by decide) (by decide) g B a (by omega) w0 hm0).mono ?_
      rintro e w2 ⟨c, hc0, hc1, rfl, hm2, hg2⟩
      have hs2 := hg2.size
      have hsd : SD w (w2.alloc (.cells ((bH c emp).cells none 0 none 0 0) 28)) g B w2.heap.size (a + 1) (bH c emp) (.slice none 0 0) none 0 := by
        refine ⟨rfl, Blk.new _ _ _, ⟨rfl, .inl ⟨rfl, rfl⟩⟩, fun x hx => by simp [Value.ownBlock] at hx, hm2.below (bl_alloc (Below.refl _ _) _), ?_, grown_alloc (grown_below_left hb0 hg2) _, hg, by omega⟩
        obtain ⟨cs, h1, h2⟩ := HR.out
        exact ⟨cs, h1, (h2.grown hg2 (by simp; omega)).alloc _⟩
      have HSD := Lib.hid hsd
      clear hsd hg2 hm2 hm0
      go_wp2_with fail
      go_meet
      case rel => exact ⟨_, c, rfl, hc0, hc1, HSD.out⟩
  case rest =>
  obtain ⟨D, c, rfl, hc0, hc1, hS⟩ := hcut
  obtain ⟨w1, rfl⟩ : ∃ w1 : World, w1 = wc := ⟨_, rfl⟩
  clear HR hm0 hb0
  have c0 : w1.cell? ⟨D, 0, none⟩ = some (.int .i64 c) := (hS.dat.cell 0).trans rfl
  have f0 := hS.dat.frozen 0
  go_upto_if 10 with fail
  go_cut [3] (fun t wx => t = .pointer (some ⟨D, 0, none⟩) ∧ ∃ c, ((0 ≤ c ∧ c < 8) ∨ c = 9) ∧ SD w wx g B D (a + 1) (bH c emp) (.slice none 0 0) none 0)
  case first =>
    as_aux_lemma =>
      by_cases h8 : c = 8
      · subst h8
        have hS2 := hS.kind (c' := 9)
        have HS := Lib.hid hS2
        clear hS2
        go_wp2_with fail
        go_meet
        case rel => exact ⟨rfl, 9, .inr rfl, HS.out⟩
      · have h8' : (c == 8) = false := by simpa using h8
        have HS := Lib.hid hS
        clear hS
        go_wp2_with fail
        go_meet
        case rel => exact ⟨rfl, c, .inl ⟨hc0, by omega⟩, HS.out⟩
  case rest =>
  clear c0 f0 hS hc0 hc1
  obtain ⟨rfl, c, hcc, hS⟩ := hcut
  obtain ⟨w2, rfl⟩ : ∃ w1 : World, w1 = wc := ⟨_, rfl⟩
  have c0 : w2.cell? ⟨D, 0, none⟩ = some (.int .i64 c) := (hS.dat.cell 0).trans rfl
  go_upto_if 14 with fail
  go_cut [3] (fun t wx => t = .pointer (some ⟨D, 0, none⟩) ∧ TypDone g B D a c w wx)
  case first =>
    as_aux_lemma =>
      by_cases hz : c = 0
      · subst hz
        have HS := Lib.hid hS
        clear hS
        go_wp2_with fail
        go_meet
        case rel => exact ⟨rfl, emp, a + 1, ⟨by decide, by decide⟩, HS.out, by omega, by omega⟩
      · have hz' : (c != 0) = true := by simpa using hz
        have hcp : 0 < c := by omega
        go_upto_region 5 with fail
        go_cut [3] (fun t wx => t = .pointer (some ⟨D, 0, none⟩) ∧ ∃ ty, TyOk c ty ∧ SD w wx g B D (a + 1) (bH c ty) (.slice none 0 0) none 0)
        case first =>
          refine wp_region_lit ?_
          refine wpList_kinds _ rfl rfl ?_
          intro W hW
          obtain ⟨j, rfl⟩ : ∃ j : Nat, c = j := ⟨c.toNat, by omega⟩
          obtain ⟨s, hs, hsT⟩ := kinds_ok j (by omega)
          have hSW : SD w W g B D (a + 1) (bH j emp) (.slice none 0 0) none 0 := by rw [hW]; exact hS.alloc _
          have hcell : W.cell? ⟨w2.heap.size, j, none⟩ = some (.string s) := by rw [hW]; exact ((Blk.new w2 9 kinds).cell j).trans hs
          have e0 : W.cell? ⟨D, 0, none⟩ = some (.int .i64 j) := (hSW.dat.cell 0).trans rfl
          have e1 : W.cell? ⟨D, 1, none⟩ = some (.string ⟨#[]⟩) := (hSW.dat.cell 1).trans rfl
          have f1 := hSW.dat.frozen 1
          have hj10 : (j : Int) < 10 := by omega
          have HSW := Lib.hid hSW
          have HT := Lib.hid hsT
          clear hS hSW hs hsT hW hcc c0
          go_wp2_with fail
          go_meet
          case rel => exact ⟨rfl, s, HT.out, HSW.out.type⟩
        case rest =>
        obtain ⟨rfl, ty, hty, hS2⟩ := hcut
        obtain ⟨w3, rfl⟩ : ∃ w1 : World, w1 = wc := ⟨_, rfl⟩
        have HT := Lib.hid hty
        have HS2 := Lib.hid hS2
        clear hS hty hS2 c0
        go_wp2_with fail
        refine (next_any 4 (by decide) (by decide) g B (a + 1) (by omega) w3 HS2.out.maker).mono ?_
        rintro e w4 ⟨d, hd0, hd1, rfl, hm4, hg4⟩
        have HS4 := Lib.hid (HS2.out.step hm4 hg4)
        clear hm4 hg4 HS2
        by_cases hd : d = 0
        · subst hd
          go_wp2_with fail
          refine (next_any 2 (by decide) (by decide) g B (a + 1 + 1) (by omega) _ (HS4.out.alloc (.cells #[.string ⟨#[84]⟩, .string ⟨#[85]⟩] 9)).maker).mono ?_
          rintro e w5 ⟨d, hd0, hd1, rfl, hm5, hg5⟩
          have hblk := (Blk.new w4 9 #[.string ⟨#[84]⟩, .string ⟨#[85]⟩]).grown hg5 (by have := HS4.out.gw; have := HS4.out.grown.size; simp; omega)
          have hS5 := (HS4.out.alloc (.cells #[.string ⟨#[84]⟩, .string ⟨#[85]⟩] 9)).step hm5 hg5
          have t0 : w5.cell? ⟨w4.heap.size, 0, none⟩ = some (.string ⟨#[84]⟩) := (hblk.cell 0).trans rfl
          have t1 : w5.cell? ⟨w4.heap.size, 1, none⟩ = some (.string ⟨#[85]⟩) := (hblk.cell 1).trans rfl
          have c1 : w5.cell? ⟨D, 1, none⟩ = some (.string ty) := (hS5.dat.cell 1).trans rfl
          have f1 := hS5.dat.frozen 1
          have HS5 := Lib.hid hS5
          clear hS5 hblk hm5 hg5
          have hd2 : d = 0 ∨ d = 1 := by omega
          rcases hd2 with rfl | rfl
          all_goals
            go_wp2_with fail
            go_meet
            case rel => exact ⟨rfl, _, _, (by first | exact ty_decl hcp decl_T (by decide) | exact ty_decl hcp decl_U (by decide)), HS5.out.type, by omega, by omega⟩
        · have hd' : (d == 0) = false := by simpa using hd
          go_wp2_with fail
          go_meet
          case rel => exact ⟨rfl, ty, _, HT.out, HS4.out, by omega, by omega⟩
  case rest =>
  clear c0 hS
  obtain ⟨rfl, ty, a1, hty, hS, ha1, ha2⟩ := hcut
  obtain ⟨w3, rfl⟩ : ∃ w1 : World, w1 = wc := ⟨_, rfl⟩
  obtain ⟨hnm, htl⟩ := hty
  have c0 : w3.cell? ⟨D, 0, none⟩ = some (.int .i64 c) := (hS.dat.cell 0).trans rfl
  go_upto_block 0 with fail
  go_cut [3] (fun t wx => t = .pointer (some ⟨D, 0, none⟩) ∧ SimpDone g B D a w wx)
  case first =>
    clear c0
    have hcl : c = 0 ∨ c = 1 ∨ c = 2 ∨ c = 3 ∨ c = 4 ∨ c = 5 ∨ c = 6 ∨ c = 7 ∨ c = 9 := by omega
    have HS := Lib.hid hS
    have HNM := Lib.hid hnm
    clear hcc hS hnm
    rcases hcl with rfl | rfl | rfl | rfl | rfl | rfl | rfl | rfl | rfl
    · as_aux_lemma =>
        go_wp2_with fail
        go_meet
        case rel => exact ⟨rfl, _, _, _, _, a1, HS.out, by omega, by omega, hd_ok ⟨by decide, by decide⟩ ok0 ⟨by decide, by decide⟩ ⟨by decide, by decide⟩ ⟨by decide, by decide⟩ ⟨by decide, by decide⟩ ⟨by decide, by decide⟩ htl (by decide) (by decide) (fun x hx => by cases hx), headB_mk HNM.out (by show (0 : Int) ≤ 0; decide) (by show (0 : Int) ≤ 9; decide) rfl (.inr (.inl rfl)) (.inl rfl) (.inl rfl)⟩
    · as_aux_lemma =>
        go_wp2_with fail
        refine (next_any 2 (by omega) (by omega) g B a1 (by omega) w3 HS.out.maker).mono ?_
        rintro e w4 ⟨n, n0, n1, rfl, hm, hgr⟩
        have HT := Lib.hid (HS.out.step hm hgr)
        clear hm hgr
        have c2 : w4.cell? ⟨D, 2, none⟩ = some (.int .i64 0) := (HT.out.dat.cell 2).trans rfl
        have f2 := HT.out.dat.frozen 2
        have HU := Lib.hid (HT.out.set 2 (.int .i64 n) (h' := ⟨1, ty, n, 0, emp, 0, 0, 0, 0, []⟩) rfl rfl)
        go_wp2_with fail
        go_meet
        case rel => exact ⟨rfl, _, _, _, _, (a1 + 1), HU.out, by omega, by omega, hd_ok ⟨by decide, by decide⟩ (okS n0 (by omega)) ⟨by decide, by decide⟩ ⟨by decide, by decide⟩ ⟨by decide, by decide⟩ ⟨by decide, by decide⟩ ⟨by decide, by decide⟩ htl (by decide) (by decide) (fun x hx => by cases hx), headB_mk HNM.out (by show (0 : Int) ≤ 1; decide) (by show (1 : Int) ≤ 9; decide) rfl (by show (1 : Int) = 2 ∨ n = 0 ∨ ((1 : Int) = 1 ∧ n = 1); omega) (.inl rfl) (.inl rfl)⟩
    · as_aux_lemma =>
        go_wp2_with fail
        refine (raw_any g B a1 (by omega) w3 HS.out.maker).mono ?_
        rintro e w4 ⟨n, hn, rfl, hm, hgr⟩
        have HT := Lib.hid (HS.out.step hm hgr)
        have HOK := Lib.hid hn
        clear hm hgr hn
        have c2 : w4.cell? ⟨D, 2, none⟩ = some (.int .i64 0) := (HT.out.dat.cell 2).trans rfl
        have f2 := HT.out.dat.frozen 2
        have HU := Lib.hid (HT.out.set 2 (.int .i64 n) (h' := ⟨2, ty, n, 0, emp, 0, 0, 0, 0, []⟩) rfl rfl)
        go_upto_region 13 with fail
        generalize w4.setCell ⟨D, 2, none⟩ (.int .i64 n) = w5 at HU ⊢
        clear c2 f2
        go_wp2_with fail
        refine (next_any 2 (by omega) (by omega) g B (a1 + 1) (by omega) w5 HU.out.maker).mono ?_
        rintro e w6 ⟨d, d0, d1, rfl, hm, hgr⟩
        have HV := Lib.hid (HU.out.step hm hgr)
        clear hm hgr
        by_cases hd : d = 0
        · subst hd
          go_wp2_with fail
          refine (next_any 3 (by omega) (by omega) g B (a1 + 1 + 1) (by omega) w6 HV.out.maker).mono ?_
          rintro e w7 ⟨m, m0, m1, rfl, hm, hgr⟩
          have HW := Lib.hid (HV.out.step hm hgr)
          clear hm hgr
          have c2 : w7.cell? ⟨D, 2, none⟩ = some (.int .i64 n) := (HW.out.dat.cell 2).trans rfl
          have f2 := HW.out.dat.frozen 2
          have HX := Lib.hid (HW.out.set 2 (.int .i64 m) (h' := ⟨2, ty, m, 0, emp, 0, 0, 0, 0, []⟩) rfl rfl)
          go_wp2_with fail
          go_meet
          case rel => exact ⟨rfl, _, _, _, _, (a1 + 1 + 1 + 1), HX.out, by omega, by omega, hd_ok ⟨by decide, by decide⟩ (okS m0 (by omega)) ⟨by decide, by decide⟩ ⟨by decide, by decide⟩ ⟨by decide, by decide⟩ ⟨by decide, by decide⟩ ⟨by decide, by decide⟩ htl (by decide) (by decide) (fun x hx => by cases hx), headB_mk HNM.out (by show (0 : Int) ≤ 2; decide) (by show (2 : Int) ≤ 9; decide) rfl (.inl rfl) (.inl rfl) (.inl rfl)⟩
        · have hd' : (d == 0) = false := by simpa using hd
          go_wp2_with fail
          go_meet
          case rel => exact ⟨rfl, _, _, _, _, (a1 + 1 + 1), HV.out, by omega, by omega, hd_ok ⟨by decide, by decide⟩ HOK.out ⟨by decide, by decide⟩ ⟨by decide, by decide⟩ ⟨by decide, by decide⟩ ⟨by decide, by decide⟩ ⟨by decide, by decide⟩ htl (by decide) (by decide) (fun x hx => by cases hx), headB_mk HNM.out (by show (0 : Int) ≤ 2; decide) (by show (2 : Int) ≤ 9; decide) rfl (.inl rfl) (.inl rfl) (.inl rfl)⟩
    · as_aux_lemma =>
        go_wp2_with fail
        refine (float_any g B a1 (by omega) w3 HS.out.maker).mono ?_
        rintro e w4 ⟨f, hf, rfl, ⟨a3, ha3, hb3, hm⟩, hgr⟩
        have HT := Lib.hid (HS.out.step hm hgr)
        have HOK := Lib.hid hf
        clear hm hgr hf
        have c3 : w4.cell? ⟨D, 3, none⟩ = some (.int .u64 0) := (HT.out.dat.cell 3).trans rfl
        have f3 := HT.out.dat.frozen 3
        have HU := Lib.hid (HT.out.set 3 (.int .u64 f) (h' := ⟨3, ty, 0, f, emp, 0, 0, 0, 0, []⟩) rfl rfl)
        go_wp2_with fail
        go_meet
        case rel => exact ⟨rfl, _, _, _, _, a3, HU.out, by omega, by omega, hd_ok ⟨by decide, by decide⟩ ok0 ⟨HOK.out.1, HOK.out.2.1⟩ ⟨by decide, by decide⟩ ⟨by decide, by decide⟩ ⟨by decide, by decide⟩ ⟨by decide, by decide⟩ htl (by decide) (by decide) (fun x hx => by cases hx), headB_mk HNM.out (by show (0 : Int) ≤ 3; decide) (by show (3 : Int) ≤ 9; decide) rfl (.inr (.inl rfl)) (.inr ⟨rfl, HOK.out.2.2⟩) (.inl rfl)⟩
    · skip
      go_wp2_with fail
      refine (next_any 6 (by decide) (by decide) g B a1 (by omega) (w3.alloc (.cells texts 9)) (HS.out.alloc (.cells texts 9)).maker).mono ?_
      rintro e w4 ⟨d, hd0, hd1, rfl, hm, hgr⟩
      have hblk := (Blk.new w3 9 texts).grown hgr (by have := HS.out.gw; have := HS.out.grown.size; simp; omega)
      have HT := Lib.hid ((HS.out.alloc (.cells texts 9)).step hm hgr)
      obtain ⟨j, rfl⟩ : ∃ j : Nat, d = j := ⟨d.toNat, by omega⟩
      obtain ⟨s, hs, hsz⟩ := texts_ok j (by omega)
      have tc : w4.cell? ⟨w3.heap.size, j, none⟩ = some (.string s) := (hblk.cell j).trans hs
      have hj6 : (j : Int) < 6 := hd1
      clear hm hgr hblk hs hd1
      have c4 : w4.cell? ⟨D, 4, none⟩ = some (.string ⟨#[]⟩) := (HT.out.dat.cell 4).trans rfl
      have f4 := HT.out.dat.frozen 4
      have HU := Lib.hid (HT.out.set 4 (.string s) (h' := ⟨4, ty, 0, 0, s, 0, 0, 0, 0, []⟩) rfl rfl)
      go_wp2_with fail
      go_meet
      case rel => exact ⟨rfl, _, _, _, _, (a1 + 1), HU.out, by omega, by omega, hd_ok ⟨by decide, by decide⟩ ok0 ⟨by decide, by decide⟩ ⟨by decide, by decide⟩ ⟨by decide, by decide⟩ ⟨by decide, by decide⟩ ⟨by decide, by decide⟩ htl hsz (by decide) (fun x hx => by cases hx), headB_mk HNM.out (by show (0 : Int) ≤ 4; decide) (by show (4 : Int) ≤ 9; decide) rfl (.inr (.inl rfl)) (.inl rfl) (.inr ⟨rfl, by show s.size ≤ 65536; omega⟩)⟩
    · as_aux_lemma =>
        go_wp2_with fail
        refine (next_any 3 (by omega) (by omega) g B a1 (by omega) w3 HS.out.maker).mono ?_
        rintro e w4 ⟨o, o0, o1, rfl, hm, hgr⟩
        have HT := Lib.hid (HS.out.step hm hgr)
        clear hm hgr
        have c5 : w4.cell? ⟨D, 5, none⟩ = some (.int .i64 0) := (HT.out.dat.cell 5).trans rfl
        have f5 := HT.out.dat.frozen 5
        have HU := Lib.hid (HT.out.set 5 (.int .i64 o) (h' := ⟨5, ty, 0, 0, emp, o, 0, 0, 0, []⟩) rfl rfl)
        go_upto_region 21 with fail
        generalize w4.setCell ⟨D, 5, none⟩ (.int .i64 o) = w5 at HU ⊢
        clear c5 f5
        have c5 : w5.cell? ⟨D, 5, none⟩ = some (.int .i64 o) := (HU.out.dat.cell 5).trans rfl
        have f5 := HU.out.dat.frozen 5
        by_cases ho : 0 < o
        · skip
          go_wp2_with fail
          refine (next_any 4 (by omega) (by omega) g B (a1 + 1) (by omega) w5 HU.out.maker).mono ?_
          rintro e w6 ⟨p, p0, p1, rfl, hm, hgr⟩
          have HV := Lib.hid (HU.out.step hm hgr)
          clear hm hgr
          clear c5 f5
          have c8 : w6.cell? ⟨D, 8, none⟩ = some (.int .i64 0) := (HV.out.dat.cell 8).trans rfl
          have f8 := HV.out.dat.frozen 8
          have HW := Lib.hid (HV.out.set 8 (.int .i64 p) (h' := ⟨5, ty, 0, 0, emp, o, 0, 0, p, []⟩) rfl rfl)
          go_upto_region 23 with fail
          generalize w6.setCell ⟨D, 8, none⟩ (.int .i64 p) = w7 at HW ⊢
          clear c8 f8
          have c8 : w7.cell? ⟨D, 8, none⟩ = some (.int .i64 p) := (HW.out.dat.cell 8).trans rfl
          have f8 := HW.out.dat.frozen 8
          go_wp2_with fail
          refine (next_any (p + 1) (by omega) (by omega) g B (a1 + 1 + 1) (by omega) w7 HW.out.maker).mono ?_
          rintro e w8 ⟨l, l0, l1, rfl, hm, hgr⟩
          have HX := Lib.hid (HW.out.step hm hgr)
          clear hm hgr
          clear c8 f8
          have c7 : w8.cell? ⟨D, 7, none⟩ = some (.int .i64 0) := (HX.out.dat.cell 7).trans rfl
          have f7 := HX.out.dat.frozen 7
          have HY := Lib.hid (HX.out.set 7 (.int .i64 l) (h' := ⟨5, ty, 0, 0, emp, o, 0, l, p, []⟩) rfl rfl)
          go_upto_region 24 with fail
          generalize w8.setCell ⟨D, 7, none⟩ (.int .i64 l) = w9 at HY ⊢
          clear c7 f7
          go_wp2_with fail
          refine (next_any 3 (by omega) (by omega) g B (a1 + 1 + 1 + 1) (by omega) w9 HY.out.maker).mono ?_
          rintro e wq ⟨q, q0, q1, rfl, hm, hgr⟩
          have HZ := Lib.hid (HY.out.step hm hgr)
          clear hm hgr
          have c6 : wq.cell? ⟨D, 6, none⟩ = some (.int .i64 0) := (HZ.out.dat.cell 6).trans rfl
          have f6 := HZ.out.dat.frozen 6
          have HE := Lib.hid (HZ.out.set 6 (.int .i64 q) (h' := ⟨5, ty, 0, 0, emp, o, q, l, p, []⟩) rfl rfl)
          go_wp2_with fail
          go_meet
          case rel => exact ⟨rfl, _, _, _, _, (a1 + 1 + 1 + 1 + 1), HE.out, by omega, by omega, hd_ok ⟨by decide, by decide⟩ ok0 ⟨by decide, by decide⟩ ⟨by omega, by omega⟩ ⟨by omega, by omega⟩ ⟨by omega, by omega⟩ ⟨by omega, by omega⟩ htl (by decide) (by decide) (fun x hx => by cases hx), headB_mk HNM.out (by show (0 : Int) ≤ 5; decide) (by show (5 : Int) ≤ 9; decide) (leads_mk (o := o) (f := q) (l := l) (c := p) (.inr ⟨by omega, by omega, by omega, by omega, by omega, by omega, by omega⟩)) (.inr (.inl rfl)) (.inl rfl) (.inl rfl)⟩
        · have ho0 : o = 0 := by omega
          subst ho0
          go_wp2_with fail
          go_meet
          case rel => exact ⟨rfl, _, _, _, _, (a1 + 1), HU.out, by omega, by omega, hd_ok ⟨by decide, by decide⟩ ok0 ⟨by decide, by decide⟩ ⟨by decide, by decide⟩ ⟨by decide, by decide⟩ ⟨by decide, by decide⟩ ⟨by decide, by decide⟩ htl (by decide) (by decide) (fun x hx => by cases hx), headB_mk HNM.out (by show (0 : Int) ≤ 5; decide) (by show (5 : Int) ≤ 9; decide) (leads_mk (o := 0) (f := 0) (l := 0) (c := 0) (.inl ⟨rfl, rfl, rfl, rfl⟩)) (.inr (.inl rfl)) (.inl rfl) (.inl rfl)⟩
    · as_aux_lemma =>
        go_wp2_with fail
        refine (next_any 3 (by omega) (by omega) g B a1 (by omega) w3 HS.out.maker).mono ?_
        rintro e w4 ⟨o, o0, o1, rfl, hm, hgr⟩
        have HT := Lib.hid (HS.out.step hm hgr)
        clear hm hgr
        have c5 : w4.cell? ⟨D, 5, none⟩ = some (.int .i64 0) := (HT.out.dat.cell 5).trans rfl
        have f5 := HT.out.dat.frozen 5
        have HU := Lib.hid (HT.out.set 5 (.int .i64 o) (h' := ⟨6, ty, 0, 0, emp, o, 0, 0, 0, []⟩) rfl rfl)
        go_wp2_with fail
        go_meet
        case rel => exact ⟨rfl, _, _, _, _, (a1 + 1), HU.out, by omega, by omega, hd_ok ⟨by decide, by decide⟩ ok0 ⟨by decide, by decide⟩ ⟨by omega, by omega⟩ ⟨by decide, by decide⟩ ⟨by decide, by decide⟩ ⟨by decide, by decide⟩ htl (by decide) (by decide) (fun x hx => by cases hx), headB_mk HNM.out (by show (0 : Int) ≤ 6; decide) (by show (6 : Int) ≤ 9; decide) (leads_ref (k := 6) (o := o) (l := []) (by omega) o0 (by omega) (by simp) (fun x hx => by cases hx) (.inl rfl)) (.inr (.inl rfl)) (.inl rfl) (.inl rfl)⟩
    · as_aux_lemma =>
        go_wp2_with fail
        refine (next_any 3 (by omega) (by omega) g B a1 (by omega) w3 HS.out.maker).mono ?_
        rintro e w4 ⟨o, o0, o1, rfl, hm, hgr⟩
        have HT := Lib.hid (HS.out.step hm hgr)
        clear hm hgr
        have c5 : w4.cell? ⟨D, 5, none⟩ = some (.int .i64 0) := (HT.out.dat.cell 5).trans rfl
        have f5 := HT.out.dat.frozen 5
        have HU := Lib.hid (HT.out.set 5 (.int .i64 o) (h' := ⟨7, ty, 0, 0, emp, o, 0, 0, 0, []⟩) rfl rfl)
        go_wp2_with fail
        go_meet
        case rel => exact ⟨rfl, _, _, _, _, (a1 + 1), HU.out, by omega, by omega, hd_ok ⟨by decide, by decide⟩ ok0 ⟨by decide, by decide⟩ ⟨by omega, by omega⟩ ⟨by decide, by decide⟩ ⟨by decide, by decide⟩ ⟨by decide, by decide⟩ htl (by decide) (by decide) (fun x hx => by cases hx), headB_mk HNM.out (by show (0 : Int) ≤ 7; decide) (by show (7 : Int) ≤ 9; decide) (leads_ref (k := 7) (o := o) (l := []) (by omega) o0 (by omega) (by simp) (fun x hx => by cases hx) (.inl rfl)) (.inr (.inl rfl)) (.inl rfl) (.inl rfl)⟩
    · as_aux_lemma =>
        go_wp2_with fail
        refine (next_any 3 (by omega) (by omega) g B a1 (by omega) w3 HS.out.maker).mono ?_
        rintro e w4 ⟨o, o0, o1, rfl, hm, hgr⟩
        have HT := Lib.hid (HS.out.step hm hgr)
        clear hm hgr
        have c5 : w4.cell? ⟨D, 5, none⟩ = some (.int .i64 0) := (HT.out.dat.cell 5).trans rfl
        have f5 := HT.out.dat.frozen 5
        have HU := Lib.hid (HT.out.set 5 (.int .i64 o) (h' := ⟨9, ty, 0, 0, emp, o, 0, 0, 0, []⟩) rfl rfl)
        go_upto_region 30 with fail
        generalize w4.setCell ⟨D, 5, none⟩ (.int .i64 o) = w5 at HU ⊢
        clear c5 f5
        go_wp2_with fail
        refine (next_any 3 (by omega) (by omega) g B (a1 + 1) (by omega) w5 HU.out.maker).mono ?_
        rintro e w6 ⟨m, m0, m1, rfl, hm, hgr⟩
        have HV := Lib.hid (HU.out.step hm hgr)
        clear hm hgr
        go_wp2_with fail
        go_loopg [4] m.toNat (fun gk s wr => ∃ j : Int, s = .int .i64 j ∧ 0 ≤ j ∧ j ≤ 2 ∧ gk = j.toNat ∧ PtrAt g B D a1 (a1 + 4) o j ty w wr)
        case atStart => exact ⟨m, rfl, m0, by omega, rfl, _, _, _, _, _, HV.out, by omega, by omega, by simp; omega, (fun x hx => by cases hx), .inl rfl⟩
        case round =>
        obtain ⟨j, rfl, hj0, hj1, rfl, p, pa, pc, a2, l, hP, hPlo, hPa, hPl, hPe, hPo⟩ := hrel
        clear HV
        have HP := Lib.hid hP
        clear hP
        have c5 : wr.cell? ⟨D, 5, none⟩ = some (.int .i64 o) := (HP.out.dat.cell 5).trans rfl
        by_cases hjo : 0 < j ∧ 0 < o
        · obtain ⟨hjp, hop⟩ := hjo
          go_upto_block 2 with fail
          go_cut [4] (fun s wx => s = .int .i64 j ∧ PtrAt g B D a1 (a1 + 4) o (j - 1) ty w wx)
          case first =>
            as_aux_lemma =>
              obtain ⟨i0, hi, hz0, hz1, hz2⟩ := info_parts info_int
              obtain rfl := HP.out.pis
              go_upto_region 33 with fail
              have HGD : wr.grownBy { wr with drawn := wr.drawn + 1 } (some g) := ⟨rfl, rfl, rfl, Nat.le_refl _, fun _ _ _ => rfl⟩
              have HD := Lib.hid (HP.out.step (w2 := { wr with drawn := wr.drawn + 1 }) (HP.out.maker.below ⟨rfl, rfl, rfl, Nat.le_refl _, fun _ _ => rfl⟩) HGD)
              refine wp_region_eff (fun W => W.cell? ⟨D, 9, none⟩ = some (.slice pa l.length pc)) [0, 1, 2, 3] [4, 5, 6] [_, _, _, _] [_, _, _] [_, _, _] 7 (by kernel_rfl) rfl rfl rfl rfl (by kernel_rfl) ?_
              iterate 4
                apply wpP_step _ rfl (by simp) rfl
                · intro W hW
                  have c9 : W.cell? ⟨D, 9, none⟩ = some (.slice pa l.length pc) := hW
                  go_wp2_with fail
                  exact ⟨rfl, rfl⟩
                · rfl
              refine wpP_nil ?_
              refine And.intro ((HD.out.dat.cell 9).trans rfl) ?_
              go_wp2_with fail
              refine (next_any 2 (by decide) (by decide) g B a2 (by omega) _ HD.out.maker).mono ?_
              rintro e w6 ⟨x, x0, x1, rfl, hm6, hg6⟩
              have HD6 := Lib.hid (HD.out.step hm6 hg6)
              clear hm6 hg6
              go_wp2_with fail
              refine And.intro ((HD6.out.dat.cell 9).trans rfl) ?_
              refine wpList_build1 _ rfl (.tmp 116) rfl x rfl ?_
              have HD7 := Lib.hid (HD6.out.alloc (.cells #[.int .i64 x] 3))
              refine And.intro ((HD7.out.dat.cell 9).trans rfl) ?_
              have hnews : ∀ (q : Nat) (u : Value), [Value.int .i64 x][q]? = some u → (w6.alloc (.cells #[.int .i64 x] 3)).cell? ((⟨w6.heap.size, 0, none⟩ : Addr).add q) = some u := by
                intro q u hq
                cases q with
                | zero =>
                  have hq : Value.int .i64 x = u := by simpa using hq
                  rw [← hq]
                  exact ((Blk.new w6 3 #[.int .i64 x]).cell 0).trans rfl
                | succ q => simp at hq
              refine wpList_append_own_at _ rfl (.tmp 114) (.tmp 117) _ rfl (w.heap.size + 1) 3 i0 _ 1 8 Tryd.underlying23 hi hz0 hz1 hz2 rfl (by omega) (.slice pa l.length pc) l.length (l.map (Value.int .i64)) rfl HD7.out.own ⟨w6.heap.size, 0, none⟩ 1 1 [.int .i64 x] rfl rfl hnews (by simp [Value.oneCell']) (by unfold maxLen; omega) (by omega) (by have := HD7.out.dat.lt; have := HD7.out.dw; omega) ?_
              intro v' w8 hown' hgrow _ hblk'
              obtain ⟨hdat8, pa', pc', hv', hS8⟩ := HD7.out.push hown' hgrow hblk'
              refine And.intro ((hdat8.cell 9).trans rfl) ?_
              have c9 : w8.cell? ⟨D, 9, none⟩ = some (.slice pa l.length pc) := (hdat8.cell 9).trans rfl
              have f9 := hdat8.frozen 9
              have hlen : (l ++ [x]).length = l.length + 1 := by simp
              rw [hlen] at hv'
              subst hv'
              have HS8 := Lib.hid hS8
              clear hlen hS8 hown' hgrow hblk' hnews hdat8 hi hz0 hz1 hz2 HGD
              go_wp2_with fail
              unfold outQ
              go_wp2_with fail
              go_meet
              case rel =>
                refine ⟨rfl, _, _, _, _, l ++ [x], HS8.out, by omega, by omega, by simp; omega, fun y hy => ?_, .inr (by omega)⟩
                rcases List.mem_append.1 hy with hy | hy
                · exact hPe y hy
                · have : y = x := by simpa using hy
                  omega
          case rest =>
          obtain ⟨rfl, hpt⟩ := hcut
          clear c5 HP
          obtain ⟨w8, rfl⟩ : ∃ w8 : World, w8 = wc := ⟨_, rfl⟩
          go_wp2_with fail
          go_roundg ((j - 1).toNat)
          case measure => omega
          case rel => exact ⟨j - 1, by go_num, by omega, by omega, rfl, hpt⟩
        · have hex : (j = 0) ∨ (0 < j ∧ o = 0) := by omega
          clear hjo
          rcases hex with rfl | ⟨hjp, rfl⟩
          all_goals
            go_wp2_with fail
            go_meet
            case rel => exact ⟨rfl, _, _, _, _, a2, HP.out, by omega, by omega, hd_ok ⟨by decide, by decide⟩ ok0 ⟨by decide, by decide⟩ ⟨by omega, by omega⟩ ⟨by decide, by decide⟩ ⟨by decide, by decide⟩ ⟨by decide, by decide⟩ htl (by decide) (by omega) hPe, headB_mk HNM.out (by show (0 : Int) ≤ 9; decide) (by show (9 : Int) ≤ 9; decide) (by first | exact leads_ref (k := 9) (o := o) (l := l) (.inr (.inr rfl)) o0 (by omega) (by omega) hPe (by rcases hPo with h | h; exact .inl h; exact .inr ⟨rfl, h⟩) | exact leads_ref (k := 9) (o := 0) (l := l) (.inr (.inr rfl)) (by decide) (by decide) (by omega) hPe (by rcases hPo with h | h; exact .inl h; exact .inr ⟨rfl, h⟩)) (.inr (.inl rfl)) (.inl rfl) (.inl rfl)⟩
  case rest =>
  obtain ⟨rfl, h, p, pa, pc, a2, hS2, hb1, hb2, ho, hh⟩ := hcut
  clear hS hnm htl c0 ha1 ha2
  obtain ⟨w4, rfl⟩ : ∃ w4 : World, w4 = wc := ⟨_, rfl⟩
  obtain ⟨c0, c1, c2, c3, c4, c5, c6, c7, c8, c9, c10⟩ := (CellsAt.of_blk hS2.dat).box
  obtain ⟨cs, hcs, hR⟩ := hS2.res
  have hfr := fun j => hR.frozen j
  obtain ⟨v0, v1, v2, v3, v4, v5, v6, v7, v8, v9, v10, q0, q1, q2, q3, q4, q5, q6, q7, q8, q9, q10⟩ := hR.eleven hcs
  have HB := Lib.hid (hS2.back ho hh hb1 hb2)
  clear hS2 ho hh
  go_wp2_with fail
  exact bodyPost_ret (v := .agg (h.cells pa pc none 0 0)) (by simp [results, Tryd.results72, go_sem, q0, q1, q2, q3, q4, q5, q6, q7, q8, q9, q10, Hd.cells]) rfl HB.out
end Go.Proofs.YthdmmhiifkebeaaDoor
