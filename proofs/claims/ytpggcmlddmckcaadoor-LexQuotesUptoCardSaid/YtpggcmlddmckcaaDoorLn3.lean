/-
  The region of number that draws its order. Contract of number in package lex. Written by an AI agent.
-/
import Derived.Test.YtpggcmlddmckcaaDoorLn1
namespace Go.Proofs.YtpggcmlddmckcaaDoor
open Go.RowKit Go.Sort
set_option maxRecDepth 100000
theorem blk_new_of (w : World) (t : TypeId) (cs : Array Value) {n : Nat} (h : n = w.heap.size) : Blk (w.alloc (.cells cs t)) n t cs := h ▸ Blk.new w t cs
set_option maxHeartbeats 4000000 in
theorem ln_r12 (a : Act) (w : World) (N : Act → World → Prop) (Q : Exit → Act → World → Prop) (l : List (Nat × Value)) (hs : Sl 120 a l) (hl : (l.map Prod.fst).all (fun k => [].contains k) = true)
    (g : Nat) (k0 a0 : Int) (tx : ByteArray) (hT : Blk w g 48 #[.int .i64 k0, .string tx, .int .i64 a0]) (R : Nat) (u0 u1 u2 : Value) (hR : Blk w R 48 #[u0, u1, u2]) (hgR : g ≠ R)  (h1 : slot a 1 = .int .i64 a0) (h8 : slot a 8 = .pointer (some ⟨g, 0, none⟩)) (h4 : slot a 4 = .pointer (some ⟨R, 0, none⟩))
    (hN : ∀ a' w', Sl 120 a' ((6, .pointer (some ⟨w.heap.size, 0, none⟩)) :: ((5, .int .i64 0) :: ((4, .pointer (some ⟨R, 0, none⟩)) :: l))) → Blk w' R 48 #[.int .i64 k0, .string tx, .int .i64 a0] → Blk w' w.heap.size 26 #[.int .i64 12, .int .i64 a0, .string ⟨#[]⟩] → (∀ B z, Below B z w → B ≤ R → Below B z w') → N a' w') : (r_ln 12).wp Tryd.prog (Exit.then N Q) a w := by
  have HN := Lib.hid hN
  have HL := Lib.hid hl
  have e1 := h1
  have e8 := h8
  have e4 := h4
  obtain ⟨f, ea, hf⟩ : ∃ f : Nat → Value, a = ⟨(List.toArray (f 0 :: f 1 :: f 2 :: f 3 :: f 4 :: f 5 :: f 6 :: f 7 :: f 8 :: f 9 :: f 10 :: f 11 :: f 12 :: f 13 :: f 14 :: f 15 :: f 16 :: f 17 :: f 18 :: f 19 :: f 20 :: f 21 :: f 22 :: f 23 :: f 24 :: f 25 :: f 26 :: f 27 :: f 28 :: f 29 :: f 30 :: f 31 :: f 32 :: f 33 :: f 34 :: f 35 :: f 36 :: f 37 :: f 38 :: f 39 :: f 40 :: f 41 :: f 42 :: f 43 :: f 44 :: f 45 :: f 46 :: f 47 :: f 48 :: f 49 :: f 50 :: f 51 :: f 52 :: f 53 :: f 54 :: f 55 :: f 56 :: f 57 :: f 58 :: f 59 :: f 60 :: f 61 :: f 62 :: f 63 :: f 64 :: f 65 :: f 66 :: f 67 :: f 68 :: f 69 :: f 70 :: f 71 :: f 72 :: f 73 :: f 74 :: f 75 :: f 76 :: f 77 :: f 78 :: f 79 :: f 80 :: f 81 :: f 82 :: f 83 :: f 84 :: f 85 :: f 86 :: f 87 :: f 88 :: f 89 :: f 90 :: f 91 :: f 92 :: f 93 :: f 94 :: f 95 :: f 96 :: f 97 :: f 98 :: f 99 :: f 100 :: f 101 :: f 102 :: f 103 :: f 104 :: f 105 :: f 106 :: f 107 :: f 108 :: f 109 :: f 110 :: f 111 :: f 112 :: f 113 :: f 114 :: f 115 :: f 116 :: f 117 :: f 118 :: f 119 :: [])), []⟩ ∧ ∀ k, slot a k = f k := letters_ln a hs.size hs.defers
  rw [hf] at e1 e8 e4
  rw [ea, e1, e8, e4]
  have HS := Lib.hid hs
  have HF := Lib.hid hf
  have E1 := Lib.hid e1
  have E8 := Lib.hid e8
  have E4 := Lib.hid e4
  clear hs ea hf hN hl h1 e1 h8 e8 h4 e4
  have HTT := Lib.hid hT
  have c0 := hT.cell 0
  have c1 := hT.cell 1
  have c2 := hT.cell 2
  simp at c0 c1 c2
  have hfz := fun j => hT.frozen j
  have hlt := hT.lt
  clear hT
  have hRR := Lib.hid hR
  have r0 := hR.cell 0
  have r1 := hR.cell 1
  have r2 := hR.cell 2
  simp at r0 r1 r2
  have hfr := fun j => hR.frozen j
  clear hR
  conv => arg 2; whnf
  refine wp_region_eff (fun W => W.cell? ⟨g, 0, none⟩ = some (.int .i64 k0) ∧ W.cell? ⟨g, 1, none⟩ = some (.string tx) ∧ W.cell? ⟨g, 2, none⟩ = some (.int .i64 a0)) [0, 1] [2] [_, _] [_] [_, _, _] 3 (by kernel_rfl) rfl rfl rfl rfl (by kernel_rfl) ?_
  iterate 2
    apply wpP_step _ rfl (by simp) rfl
    · rintro W ⟨d0, d1, d2⟩
      go_wp2_with fail
      exact ⟨rfl, rfl⟩
    · rfl
  refine wpP_nil ?_
  refine And.intro ⟨c0, c1, c2⟩ ?_
  go_wp2_with fail
  refine (wrong_any _ _ _).mono ?_
  rintro e w' ⟨rfl, rfl⟩
  go_wp2_with fail
  refine And.intro ⟨?_, ?_, ?_⟩ ?_
  · exact (Blk.alloc (w := { w with drawn := w.drawn + 1 }) HTT.out _).cell 0
  · exact (Blk.alloc (w := { w with drawn := w.drawn + 1 }) HTT.out _).cell 1
  · exact (Blk.alloc (w := { w with drawn := w.drawn + 1 }) HTT.out _).cell 2
  have hltR := hRR.out.lt
  change wpList _ _ _ _ _ _
  go_wp2_with fail
  refine HN.out _ _ ?_ (((((hRR.out.set_ 0 (.int .i64 k0)).set_ 1 (.string tx)).set_ 2 (.int .i64 a0)).alloc _)) ((blk_new_of _ _ _ (by simp [World.setCell]))) ((fun B z h hB => Below.drew ((((h.setCell (p := ⟨R, 0, none⟩) hB _).setCell (p := ⟨R, 1, none⟩) hB _).setCell (p := ⟨R, 2, none⟩) hB _).alloc (by simp [World.setCell]; omega) _)))
  exact Sl.add (Sl.add (Sl.add (Sl.stay [] HS.out HF.out (by kernel_rfl) rfl trivial HL.out) (by kernel_rfl)) (by kernel_rfl)) (by kernel_rfl)
end Go.Proofs.YtpggcmlddmckcaaDoor

namespace Go.Proofs.YtpggcmlddmckcaaDoor
open Go.RowKit Go.Sort
set_option maxRecDepth 100000

noncomputable def lnEnd : Code := .seq (r_ln 9) (.seq (r_ln 10) (.seq (.seq (r_ln 11) (.cond (.tmp 112) (.seq (r_ln 12) .ret) .skip)) (.seq (r_ln 13) .ret)))
noncomputable def lnBody : Code := .seq (r_ln 0) (.seq (r_ln 1) (.seq (r_ln 2) (.seq (r_ln 3) (.seq (.seq (r_ln 4) (.seq (r_ln 5) (.cond (.tmp 43) (.seq (r_ln 6) (.seq (r_ln 7) (r_ln 8))) .skip))) lnEnd))))
theorem ln_body : Tryd.f52.body = some lnBody := by kernel_rfl

/-- Is there a dot and a digit at the front? -/
theorem part_test (m : List UInt8) : (∃ x y t, m = x :: y :: t ∧ decide (0 < numPart m) = (decide (x = 46) && isDig y)) ∨ (m.length ≤ 1 ∧ decide (0 < numPart m) = false) := by
  match m with
  | [] => exact .inr ⟨by simp, rfl⟩
  | [x] => exact .inr ⟨by simp, by simp [numPart, runL]⟩
  | x :: y :: t =>
    refine .inl ⟨x, y, t, rfl, ?_⟩
    unfold numPart
    by_cases h : x = 46
    · simp only [h, if_true, decide_true, Bool.true_and]
      rw [run_cons]
      cases hy : isDig y <;> simp [inRun, hy]
    · simp [h]

def numR (a0 : Nat) (l : List UInt8) : Ans (Tok × Nat) := if numBad l then .bad ⟨12, a0⟩ else .ok (numT a0 l, (numT a0 l).text.length)

theorem run_le_f (l : List UInt8) : runL false l ≤ l.length := run_le false l
theorem bs_len {l : List UInt8} {r : ByteArray} (h : bs l = r) : r.size = l.length := by rw [← h, bs_size]

/-- The cells that hold what a number hands back. -/
theorem res_num {tmps : Array Value} {W : World} {R : Nat} {v5 v6 : Value} {t : Tok} (h4 : tmps.getD 4 undef = .pointer (some ⟨R, 0, none⟩)) (h5 : tmps.getD 5 undef = v5) (h6 : tmps.getD 6 undef = v6) (hR : Blk W R 48 (tokC t)) :
    (results Tryd.f52 tmps).run Tryd.prog W = .ok (.tuple #[tokV t, v5, v6]) W := by
  have c0 : W.cell? ⟨R, 0, none⟩ = some (.int .i64 t.kind) := hR.cell 0
  have c1 : W.cell? ⟨R, 1, none⟩ = some (.string (bs t.text)) := hR.cell 1
  have c2 : W.cell? ⟨R, 2, none⟩ = some (.int .i64 t.place) := hR.cell 2
  simp only [Array.getD_eq_getD_getElem?] at h4 h5 h6
  simp [results, Tryd.results52, go_sem, h4, h5, h6, c0, c1, c2, tokV, tokC]

/-- The end of number, from the token's text on. -/
theorem ln_end (s : ByteArray) (hs : s.size ≤ 140737488355328) (a0 : Nat) (l : List UInt8) (hl : s.data.toList.drop a0 = l) (ha : a0 < s.size) (w w1 : World) (a : Act) (n p k0 g : Nat) (wh pt : ByteArray) (v1 u0 u1 u2 : Value)
    (hn : runL false l = n) (hp : numPart (l.drop n) = p) (hk : k0 = if 0 < p then 5 else 4) (hwh : bs (l.take n) = wh) (hpt : pt.size = p)
    (hs1 : Sl 120 a [(10, .string pt), (9, .string wh), (8, .pointer (some ⟨g, 0, none⟩)), (7, .int .i64 ((if 0 < p then n + 1 + p else n : Nat) : Int)), (4, .pointer (some ⟨w.heap.size, 0, none⟩)), (1, .int .i64 (a0 : Int)), (0, .string s)])
    (hT : Blk w1 g 48 #[.int .i64 (k0 : Int), v1, .int .i64 (a0 : Int)]) (hR : Blk w1 w.heap.size 48 #[u0, u1, u2]) (hg : w.heap.size < g) (hb : Below w.heap.size w w1) :
    lnEnd.wp Tryd.prog (bodyPost Tryd.prog Tryd.f52 (OneR a0 (numR a0 l) w)) a w1 := by
  have hll : l.length = s.size - a0 := by rw [← hl]; simp
  have hnl := run_le_f l
  rw [hn] at hnl
  have hpl := numPart_le (l.drop n)
  rw [hp, List.length_drop] at hpl
  obtain ⟨m, hm⟩ : ∃ m : Nat, (if 0 < p then n + 1 + p else n) = m := ⟨_, rfl⟩
  have hml : m ≤ l.length := by rw [← hm]; split <;> omega
  rw [hm] at hs1
  have htx := fun w => sl_to (s := s) (a := a0) (b := a0 + m) (by omega) (by omega) (x := (a0 : Int)) (y := (a0 : Int) + (m : Int)) rfl (by omega) w
  have hq := fun w => sl_from (s := s) (k := a0 + m) (by omega) (x := (a0 : Int) + (m : Int)) (by omega) w
  rw [hl, show a0 + m - a0 = m by omega] at htx
  rw [← List.drop_drop, hl] at hq
  have hwl : wh.size = n := by rw [bs_len hwh, List.length_take]; omega
  have hT0 : ∀ a, numT a l = ⟨k0, l.take m, a⟩ := fun a => by
    unfold numT
    rw [hn, hp]
    split
    · next h => rw [if_pos h] at hm hk; rw [hm, hk]
    · next h => rw [if_neg h] at hm hk; rw [hm, hk]
  have hlen : (numT a0 l).text.length = m := by rw [hT0]; simp; omega
  unfold lnEnd
  refine wp_seq (ln_r9 a w1 _ _ _ hs1 rfl s a0 m (bs (l.take m)) (by omega) (by omega) (by omega) htx g _ v1 _ hT rfl rfl rfl rfl fun a2 h2 => ?_)
  have hT2 : Blk (w1.setCell ⟨g, 1, none⟩ (.string (bs (l.take m)))) g 48 #[.int .i64 (k0 : Int), .string (bs (l.take m)), .int .i64 (a0 : Int)] := hT.set_ 1 _
  have hR2 := hR.far (p := ⟨g, 1, none⟩) (by show w.heap.size ≠ g; omega) (.string (bs (l.take m)))
  have hb2 : Below w.heap.size w (w1.setCell ⟨g, 1, none⟩ (.string (bs (l.take m)))) := hb.setCell (p := ⟨g, 1, none⟩) (by show w.heap.size ≤ g; omega) _
  generalize w1.setCell ⟨g, 1, none⟩ (.string (bs (l.take m))) = w2 at hT2 hR2 hb2 ⊢
  clear hT hR hb htx
  -- what is over
  have hover : ∀ (N : Act → World → Prop) (Q : Exit → Act → World → Prop), (∀ a', Sl 120 a' [(12, .bool (if 0 < p then false else overB (l.take n))), (10, .string pt), (9, .string wh), (8, .pointer (some ⟨g, 0, none⟩)), (7, .int .i64 (m : Int)), (4, .pointer (some ⟨w.heap.size, 0, none⟩)), (1, .int .i64 (a0 : Int)), (0, .string s)] → N a' w2) → (r_ln 10).wp Tryd.prog (Exit.then N Q) a2 w2 := by
    intro N Q hN
    by_cases h0 : 0 < p
    · rw [if_pos h0] at hk hN
      subst hk
      exact ln_r10f a2 w2 _ _ _ h2 rfl wh g _ _ hT2 rfl rfl hN
    · rw [if_neg h0] at hk hN
      subst hk
      have hov : overB (l.take n) = (decide (19 < n) || (decide (n = 19) && lessB topL (l.take n))) := by
        unfold overB
        rw [List.length_take, Nat.min_eq_left hnl]
      by_cases h19 : 19 < n
      · rw [decide_eq_true h19, Bool.true_or] at hov
        rw [hov] at hN
        exact ln_r10a a2 w2 _ _ _ h2 rfl wh (by omega) g _ _ hT2 rfl rfl hN
      · rw [decide_eq_false h19, Bool.false_or] at hov
        by_cases h20 : n = 19
        · rw [decide_eq_true h20, Bool.true_and] at hov
          rw [hov] at hN
          refine ln_r10b a2 w2 _ _ _ h2 rfl wh _ (by omega) (by rw [hwl, h20]; rfl) ?_ g _ _ hT2 rfl rfl hN
          rw [← hwh, bs_toList]
          exact above_bytes (l.take n)
        · rw [decide_eq_false h20, Bool.false_and] at hov
          rw [hov] at hN
          exact ln_r10c a2 w2 _ _ _ h2 rfl wh (by omega) (by rw [hwl, beq_eq_false_iff_ne]; omega) g _ _ hT2 rfl rfl hN
  refine wp_seq (hover _ _ fun a3 h3 => ?_)
  clear hover h2
  -- is it bad?
  have hbad : numBad l = ((if 0 < p then decide (15 < n + p) else overB (l.take n)) || decide (0 < runL true (l.drop m)) || (decide (1 < n) && (l.head? == some 48))) := by
    unfold numBad
    rw [hn, hp, hT0]
    have : (l.take m).length = m := by simp; omega
    simp only [this]
  have hrun := fun w => lrun_any (bs (l.drop m)) (by rw [bs_size, List.length_drop]; omega) true w
  rw [bs_list] at hrun
  have hlead : (n ≤ 1) ∨ (1 < n ∧ ∃ c, l[0]? = some c ∧ (l.head? == some 48) = ((c.toNat : Int) == 48)) := by
    by_cases h1 : 1 < n
    · refine .inr ⟨h1, ?_⟩
      cases l with
      | nil => simp at hnl; omega
      | cons c t => exact ⟨c, rfl, by rw [show (48 : Int) = ((48 : UInt8).toNat : Int) from rfl, byte_eq, List.head?_cons]; rw [Bool.eq_iff_iff]; simp⟩
    · exact .inl (by omega)
  have hidx : ∀ c, 1 < n → l[0]? = some c → ∀ w, (Instr.index 9 (.string wh) (.int .i64 0)).run Tryd.prog w = .ok (.int .u8 (c.toNat : Int)) w := fun c h1 hc w => by
    rw [← hwh]
    exact bs_idx (k := 0) (by rw [List.getElem?_take, if_pos (by omega)]; exact hc) rfl w
  have htest : ∀ (N : Act → World → Prop) (Q : Exit → Act → World → Prop), (∀ a' w', Sl 120 a' [(112, .bool (numBad l)), (8, .pointer (some ⟨g, 0, none⟩)), (7, .int .i64 (m : Int)), (4, .pointer (some ⟨w.heap.size, 0, none⟩)), (1, .int .i64 (a0 : Int)), (0, .string s)] → Below w2.heap.size w2 w' → N a' w') → (r_ln 11).wp Tryd.prog (Exit.then N Q) a3 w2 := by
    intro N Q hN
    have h3' := h3.none.add (h3.look 0 rfl) |>.add (h3.look 1 rfl) |>.add (h3.look 4 rfl) |>.add (h3.look 7 rfl) |>.add (h3.look 8 rfl)
    have e12 := h3.look 12 rfl
    cases ho : (if 0 < p then false else overB (l.take n)) with
    | true =>
      rw [ho] at e12
      have : numBad l = true := by
        rw [hbad]
        split at ho
        · cases ho
        · next h => rw [if_neg h, ho]; rfl
      rw [this] at hN
      exact ln_r11o a3 w2 _ _ _ h3' rfl e12 fun a' h' => hN a' w2 h' (Below.refl _ _)
    | false =>
      rw [ho] at e12
      by_cases hr : 0 < runL true (l.drop m)
      · have : numBad l = true := by rw [hbad, decide_eq_true hr]; simp
        rw [this] at hN
        by_cases h0 : 0 < p
        · rw [if_pos h0] at hk; subst hk
          exact ln_r11r5 a3 w2 _ _ _ h3' rfl s a0 m wh pt (bs (l.drop m)) (runL true (l.drop m)) (by omega) (by omega) (by omega) hq hrun (by omega) g _ _ hT2 rfl rfl rfl rfl (h3.look 9 rfl) (h3.look 10 rfl) e12 hN
        · rw [if_neg h0] at hk; subst hk
          exact ln_r11r a3 w2 _ _ _ h3' rfl s a0 m wh pt (bs (l.drop m)) (runL true (l.drop m)) (by omega) (by omega) (by omega) hq hrun (by omega) g _ _ hT2 rfl rfl rfl rfl (h3.look 9 rfl) (h3.look 10 rfl) e12 hN
      · have hr' : decide ((0 : Int) < ((runL true (l.drop m) : Nat) : Int)) = false := decide_eq_false (by omega)
        rw [decide_eq_false hr, Bool.or_false] at hbad
        rcases hlead with h1 | ⟨h1, c, hc, hcc⟩
        · have hw1 : decide ((1 : Int) < (wh.size : Int)) = false := decide_eq_false (by omega)
          rw [decide_eq_false (show ¬ 1 < n by omega), Bool.false_and, Bool.or_false] at hbad
          by_cases h0 : 0 < p
          · rw [if_pos h0] at hk hbad; subst hk
            by_cases h15 : 15 < n + p
            · rw [decide_eq_true h15] at hbad
              rw [hbad] at hN
              exact ln_r11s5T a3 w2 _ _ _ h3' rfl s a0 m wh pt (bs (l.drop m)) (runL true (l.drop m)) (by omega) (by omega) (by omega) hq hrun hr' hw1 (by omega) (by omega) g _ _ hT2 rfl rfl rfl rfl (h3.look 9 rfl) (h3.look 10 rfl) e12 hN
            · rw [decide_eq_false h15] at hbad
              rw [hbad] at hN
              exact ln_r11s5F a3 w2 _ _ _ h3' rfl s a0 m wh pt (bs (l.drop m)) (runL true (l.drop m)) (by omega) (by omega) (by omega) hq hrun hr' hw1 (by omega) (decide_eq_false (by omega)) g _ _ hT2 rfl rfl rfl rfl (h3.look 9 rfl) (h3.look 10 rfl) e12 hN
          · rw [if_neg h0] at hk hbad ho; subst hk
            rw [ho] at hbad
            rw [hbad] at hN
            exact ln_r11s a3 w2 _ _ _ h3' rfl s a0 m wh pt (bs (l.drop m)) (runL true (l.drop m)) (by omega) (by omega) (by omega) hq hrun hr' hw1 g _ _ hT2 rfl rfl rfl rfl (h3.look 9 rfl) (h3.look 10 rfl) e12 hN
        · have hw1 : (1 : Int) < (wh.size : Int) := by omega
          rw [decide_eq_true h1, Bool.true_and, hcc] at hbad
          have hix := hidx c h1 hc
          cases hz : ((c.toNat : Int) == 48) with
          | true =>
            rw [hz, Bool.or_true] at hbad
            rw [hbad] at hN
            have hc48 : (c.toNat : Int) = 48 := by simpa using hz
            rw [hc48] at hix
            by_cases h0 : 0 < p
            · rw [if_pos h0] at hk; subst hk
              exact ln_r11z5 a3 w2 _ _ _ h3' rfl s a0 m wh pt (bs (l.drop m)) (runL true (l.drop m)) (by omega) (by omega) (by omega) hq hrun hr' hw1 hix g _ _ hT2 rfl rfl rfl rfl (h3.look 9 rfl) (h3.look 10 rfl) e12 hN
            · rw [if_neg h0] at hk; subst hk
              exact ln_r11z a3 w2 _ _ _ h3' rfl s a0 m wh pt (bs (l.drop m)) (runL true (l.drop m)) (by omega) (by omega) (by omega) hq hrun hr' hw1 hix g _ _ hT2 rfl rfl rfl rfl (h3.look 9 rfl) (h3.look 10 rfl) e12 hN
          | false =>
            rw [hz, Bool.or_false] at hbad
            by_cases h0 : 0 < p
            · rw [if_pos h0] at hk hbad; subst hk
              by_cases h15 : 15 < n + p
              · rw [decide_eq_true h15] at hbad
                rw [hbad] at hN
                exact ln_r11n5T a3 w2 _ _ _ h3' rfl s a0 m wh pt (bs (l.drop m)) (runL true (l.drop m)) (by omega) (by omega) (by omega) hq hrun hr' hw1 _ hix hz (by omega) (by omega) g _ _ hT2 rfl rfl rfl rfl (h3.look 9 rfl) (h3.look 10 rfl) e12 hN
              · rw [decide_eq_false h15] at hbad
                rw [hbad] at hN
                exact ln_r11n5F a3 w2 _ _ _ h3' rfl s a0 m wh pt (bs (l.drop m)) (runL true (l.drop m)) (by omega) (by omega) (by omega) hq hrun hr' hw1 _ hix hz (by omega) (decide_eq_false (by omega)) g _ _ hT2 rfl rfl rfl rfl (h3.look 9 rfl) (h3.look 10 rfl) e12 hN
            · rw [if_neg h0] at hk hbad ho; subst hk
              rw [ho] at hbad
              rw [hbad] at hN
              exact ln_r11n a3 w2 _ _ _ h3' rfl s a0 m wh pt (bs (l.drop m)) (runL true (l.drop m)) (by omega) (by omega) (by omega) hq hrun hr' hw1 _ hix hz g _ _ hT2 rfl rfl rfl rfl (h3.look 9 rfl) (h3.look 10 rfl) e12 hN
  refine wp_seq (wp_seq (htest _ _ fun a4 w4 h4 hb4 => ?_))
  clear htest
  have hT4 := hT2.below hb4 hT2.lt
  have hR4 := hR2.below hb4 hR2.lt
  have hbw4 := bl_trans hb2 hb4
  have hltR := hR4.lt
  unfold numR
  cases hB : numBad l with
  | true =>
    rw [hB] at h4
    refine wp_cond_true (h4.look 112 rfl) ?_
    refine wp_seq (ln_r12 a4 w4 _ _ _ h4.none rfl g _ _ _ hT4 w.heap.size _ _ _ hR4 (by omega) (h4.look 1 rfl) (h4.look 8 rfl) (h4.look 4 rfl) fun a5 w5 h5 hR5 hW5 hb5 => wp_ret ?_)
    refine bodyPost_ret (v := .tuple #[tokV ⟨k0, l.take m, a0⟩, .int .i64 0, .pointer (some ⟨w4.heap.size, 0, none⟩)]) (res_num (h5.look 4 rfl) (h5.look 5 rfl) (h5.look 6 rfl) hR5) h5.defers ?_
    exact OneR.bad (hb5 _ _ hbw4 (Nat.le_refl _)) _ _ _ rfl ⟨hbw4.size, hW5⟩
  | false =>
    rw [hB] at h4
    refine wpc_off (h4.look 112 rfl) ?_
    show Code.wp _ (Code.seq (r_ln 13) .ret) _ a4 w4
    refine wp_seq (ln_r13 a4 w4 _ _ _ h4.none rfl m g _ _ _ hT4 (by omega) (by omega) (by omega) w.heap.size _ _ _ hR4 (by omega) (h4.look 1 rfl) (h4.look 7 rfl) (h4.look 8 rfl) (h4.look 4 rfl) fun a5 w5 h5 hR5 hb5 => wp_ret ?_)
    refine bodyPost_ret (v := .tuple #[tokV ⟨k0, l.take m, a0⟩, .int .i64 ((a0 : Int) + (m : Int)), .pointer none]) (res_num (h5.look 4 rfl) (h5.look 5 rfl) (h5.look 6 rfl) hR5) h5.defers ?_
    rw [if_neg (by decide), hlen, hT0]
    exact OneR.ok (hb5 _ _ hbw4 (Nat.le_refl _)) (by simp)

theorem wp_then {P : Program} {c : Code} {Q : Exit → Act → World → Prop} {a : Act} {w : World} (h : c.wp P (Exit.then (Q .normal) Q) a w) : c.wp P Q a w := by
  have e : Exit.then (Q .normal) Q = Q := by
    funext e a w
    cases e <;> rfl
  rwa [e] at h

theorem number_any (s : ByteArray) (hs : s.size ≤ 140737488355328) (a0 : Nat) (ha : a0 < s.size) (w : World) :
    Calls Tryd.prog 52 #[.string s, .int .i64 a0] w (OneR a0 (numR a0 (s.data.toList.drop a0)) w) := by
  obtain ⟨l, hl⟩ : ∃ l, s.data.toList.drop a0 = l := ⟨_, rfl⟩
  rw [hl]
  have hll : l.length = s.size - a0 := by rw [← hl]; simp
  obtain ⟨n, hn⟩ : ∃ n, runL false l = n := ⟨_, rfl⟩
  have hnl := run_le_f l
  rw [hn] at hnl
  obtain ⟨p, hp⟩ : ∃ p, numPart (l.drop n) = p := ⟨_, rfl⟩
  have hsf := fun w => sl_from (s := s) (k := a0) (by omega) (x := (a0 : Int)) rfl w
  have hwh := fun w => sl_to (s := s) (a := a0) (b := a0 + n) (by omega) (by omega) (x := (a0 : Int)) (y := (a0 : Int) + (n : Int)) rfl (by omega) w
  have hrs := fun w => sl_from (s := s) (k := a0 + n) (by omega) (x := (a0 : Int) + (n : Int)) (by omega) w
  have hrun := fun w => lrun_any (bs l) (by rw [bs_size]; omega) false w
  rw [bs_list, hn] at hrun
  rw [hl] at hsf
  rw [hl, show a0 + n - a0 = n by omega] at hwh
  rw [← List.drop_drop, hl] at hrs
  refine calls_of_wp Tryd.func52 ln_body ?_
  have h0 : Sl 120 { tmps := #[Value.string s, .int .i64 (a0 : Int)] ++ Array.replicate (Tryd.f52.ntmps - #[Value.string s, .int .i64 (a0 : Int)].size) undef, defers := [] } [(1, .int .i64 (a0 : Int)), (0, .string s)] :=
    ⟨by simp [Tryd.ntmps52], rfl, fun p hp => by
      simp only [List.mem_cons, List.not_mem_nil, or_false] at hp
      rcases hp with rfl | rfl <;> simp [slot]⟩
  generalize { tmps := #[Value.string s, .int .i64 (a0 : Int)] ++ Array.replicate (Tryd.f52.ntmps - #[Value.string s, .int .i64 (a0 : Int)].size) undef, defers := [] : Act } = b0 at h0 ⊢
  unfold lnBody
  refine wp_seq (ln_r0 b0 w _ _ _ h0 rfl fun a1 h1 => ?_)
  have hR1 : Blk (w.alloc (.cells #[.int .i64 0, .string ⟨#[]⟩, .int .i64 0] 48)) w.heap.size 48 #[.int .i64 0, .string ⟨#[]⟩, .int .i64 0] := Blk.new _ _ _
  have hb1 : Below w.heap.size w (w.alloc (.cells #[.int .i64 0, .string ⟨#[]⟩, .int .i64 0] 48)) := bl_alloc (Below.refl _ _) _
  generalize w.alloc (.cells #[.int .i64 0, .string ⟨#[]⟩, .int .i64 0] 48) = w1 at hR1 hb1 ⊢
  have h1 := h1.none.add (h1.look 0 rfl) |>.add (h1.look 1 rfl) |>.add (h1.look 4 rfl)
  refine wp_seq (ln_r1 a1 w1 _ _ _ h1 rfl s a0 (bs l) n hsf hrun rfl rfl fun a2 w2 h2 hb2 => ?_)
  have hR2 := hR1.below hb2 hR1.lt
  have hbw2 := bl_trans hb1 hb2
  clear hR1 hb1 hb2
  refine wp_seq (ln_r2 a2 w2 _ _ _ h2 rfl a0 rfl fun a3 h3 => ?_)
  have hR3 := hR2.alloc (.cells #[.int .i64 4, .string ⟨#[]⟩, .int .i64 (a0 : Int)] 48)
  have hT3 : Blk (w2.alloc (.cells #[.int .i64 4, .string ⟨#[]⟩, .int .i64 (a0 : Int)] 48)) w2.heap.size 48 #[.int .i64 4, .string ⟨#[]⟩, .int .i64 (a0 : Int)] := Blk.new _ _ _
  have hbw3 := bl_alloc hbw2 (.cells #[.int .i64 4, .string ⟨#[]⟩, .int .i64 (a0 : Int)] 48)
  have hg := hR2.lt
  generalize w2.alloc (.cells #[.int .i64 4, .string ⟨#[]⟩, .int .i64 (a0 : Int)] 48) = w3 at hR3 hT3 hbw3 ⊢
  refine wp_seq (ln_r3 a3 w3 _ _ _ h3 rfl s a0 n (bs (l.take n)) (by omega) (by omega) (by omega) hwh rfl rfl rfl fun a4 h4 => ?_)
  refine wp_seq (wp_seq (ln_r4 a4 w3 _ _ _ h4 rfl s a0 n (bs (l.drop n)) (by omega) (by omega) (by omega) hrs rfl rfl rfl fun a5 h5 => ?_))
  refine wp_seq ?_
  have htest : ∀ (N : Act → World → Prop) (Q : Exit → Act → World → Prop), (∀ a', Sl 120 a' [(43, .bool (decide (0 < p))), (11, .string (bs (l.drop n))), (10, .string ⟨#[]⟩), (9, .string (bs (l.take n))), (8, .pointer (some ⟨w2.heap.size, 0, none⟩)), (7, .int .i64 (n : Int)), (4, .pointer (some ⟨w.heap.size, 0, none⟩)), (1, .int .i64 (a0 : Int)), (0, .string s)] → N a' w3) → (r_ln 5).wp Tryd.prog (Exit.then N Q) a5 w3 := by
    intro N Q hN
    have hpt := part_test (l.drop n)
    rw [hp] at hpt
    rcases hpt with ⟨x, y, t, hm, hpt⟩ | ⟨hlen, hpt⟩
    · have hi0 := fun w => bs_idx (l := l.drop n) (k := 0) (c := x) (by rw [hm]; rfl) (x := 0) rfl w
      have hi1 := fun w => bs_idx (l := l.drop n) (k := 1) (c := y) (by rw [hm]; rfl) (x := 1) rfl w
      have hsz : (1 : Int) < ((bs (l.drop n)).size : Int) := by rw [bs_size, hm]; simp; omega
      by_cases hx : x = 46
      · subst hx
        rw [decide_eq_true rfl, Bool.true_and] at hpt
        rw [hpt] at hN
        have hD := fun w => digit_any (y.toNat : Int) w
        rw [digN_of] at hD
        exact ln_r5d a5 w3 _ _ _ h5 rfl _ _ (by omega) (by have := y.toNat_lt; omega) _ hsz hi0 hi1 hD rfl hN
      · rw [decide_eq_false hx, Bool.false_and] at hpt
        rw [hpt] at hN
        exact ln_r5x a5 w3 _ _ _ h5 rfl _ _ hsz hi0 (by rw [show (46 : Int) = ((46 : UInt8).toNat : Int) from rfl, byte_eq]; exact decide_eq_false hx) rfl hN
    · rw [hpt] at hN
      exact ln_r5s a5 w3 _ _ _ h5 rfl _ (by rw [bs_size]; omega) rfl hN
  refine htest _ _ fun a6 h6 => ?_
  clear htest
  by_cases h0p : 0 < p
  · rw [decide_eq_true h0p] at h6
    refine wp_cond_true (h6.look 43 rfl) ?_
    have hpl := numPart_le (l.drop n)
    rw [hp, List.length_drop] at hpl
    -- the part behind the dot
    obtain ⟨c, r, hcr, hc46⟩ : ∃ c r, l.drop n = c :: r ∧ p = runL false r := by
      rcases hq : l.drop n with _ | ⟨c, r⟩
      · rw [hq] at hp; simp [numPart] at hp; omega
      · rw [hq] at hp
        unfold numPart at hp
        simp only at hp
        split at hp
        · exact ⟨c, r, rfl, hp.symm⟩
        · omega
    have hrl : p ≤ r.length := by rw [hc46]; exact run_le _ _
    have hs1 := fun w => sl_from (s := bs (l.drop n)) (k := 1) (by rw [bs_size, List.length_drop]; omega) (x := 1) rfl w
    have hpt := fun w => sl_to (s := bs (l.drop n)) (a := 1) (b := 1 + p) (by omega) (by rw [bs_size, List.length_drop]; omega) (x := 1) (y := 1 + (p : Int)) rfl (by omega) w
    have hrun2 := fun w => lrun_any (bs r) (by rw [bs_size]; have := congrArg List.length hcr; simp at this; omega) false w
    rw [bs_list, ← hc46] at hrun2
    rw [bs_list, hcr, List.drop_succ_cons, List.drop_zero] at hs1 hpt
    rw [show 1 + p - 1 = p by omega] at hpt
    rw [← hcr] at hs1 hpt
    have h6' := h6.none.add (h6.look 0 rfl) |>.add (h6.look 1 rfl) |>.add (h6.look 4 rfl) |>.add (h6.look 7 rfl) |>.add (h6.look 8 rfl) |>.add (h6.look 9 rfl)
    refine wp_seq (ln_r6 a6 w3 _ _ _ h6' rfl (bs (l.drop n)) (bs r) (bs (r.take p)) p (by omega) (by omega) hs1 hrun2 hpt (h6.look 11 rfl) fun a7 w7 h7 hb7 => ?_)
    have hR7 := hR3.below hb7 hR3.lt
    have hT7 := hT3.below hb7 hT3.lt
    have hbw7 := bl_trans hbw3 hb7
    have hps : (bs (r.take p)).size = p := by rw [bs_size, List.length_take]; omega
    have h7' := h7.none.add (h7.look 0 rfl) |>.add (h7.look 1 rfl) |>.add (h7.look 4 rfl) |>.add (h7.look 8 rfl) |>.add (h7.look 9 rfl) |>.add (h7.look 10 rfl)
    refine wp_seq (ln_r7 a7 w7 _ _ _ h7' rfl n (bs (r.take p)) (by omega) (by rw [hps]; omega) (h7.look 7 rfl) rfl fun a8 h8 => ?_)
    refine wp_then ?_
    have e7 : slot a8 7 = .int .i64 ((if 0 < p then n + 1 + p else n : Nat) : Int) := by rw [h8.look 7 rfl, hps, if_pos h0p]; congr 1; omega
    have h8' := h8.none.add (h8.look 0 rfl) |>.add (h8.look 1 rfl) |>.add (h8.look 4 rfl) |>.add e7 |>.add (h8.look 8 rfl) |>.add (h8.look 9 rfl) |>.add (h8.look 10 rfl)
    refine ln_r8 a8 w7 _ _ _ h8' rfl w2.heap.size _ _ _ hT7 rfl fun a9 h9 => ?_
    show Code.wp _ lnEnd _ a9 _
    exact ln_end s hs a0 l hl ha w _ a9 n p 5 w2.heap.size (bs (l.take n)) (bs (r.take p)) _ _ _ _ hn hp (by rw [if_pos h0p]) rfl hps h9 (hT7.set_ 0 _) (hR7.far (p := ⟨w2.heap.size, 0, none⟩) (by show w.heap.size ≠ w2.heap.size; omega) _) hg (hbw7.setCell (p := ⟨w2.heap.size, 0, none⟩) (by show w.heap.size ≤ w2.heap.size; omega) _)
  · rw [decide_eq_false h0p] at h6
    refine wpc_off (h6.look 43 rfl) ?_
    show Code.wp _ lnEnd _ a6 w3
    have e7 : slot a6 7 = .int .i64 ((if 0 < p then n + 1 + p else n : Nat) : Int) := by rw [h6.look 7 rfl, if_neg h0p]
    have h6' := h6.none.add (h6.look 0 rfl) |>.add (h6.look 1 rfl) |>.add (h6.look 4 rfl) |>.add e7 |>.add (h6.look 8 rfl) |>.add (h6.look 9 rfl) |>.add (h6.look 10 rfl)
    exact ln_end s hs a0 l hl ha w w3 a6 n p 4 w2.heap.size (bs (l.take n)) ⟨#[]⟩ _ _ _ _ hn hp (by rw [if_neg h0p]) rfl (by show 0 = p; omega) h6' hT3 hR3 hg hbw3
end Go.Proofs.YtpggcmlddmckcaaDoor
