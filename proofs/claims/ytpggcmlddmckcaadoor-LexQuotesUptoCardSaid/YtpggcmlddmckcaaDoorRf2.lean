/-
  Contracts of the reference's run, above, signs, ends, feed. Written by an AI agent.
-/
import Derived.Test.YtpggcmlddmckcaaDoorRf1
import Derived.Test.YtpggcmlddmckcaaDoorOw
import Derived.Test.YtpggcmlddmckcaaDoorLb7
import Derived.Test.YtpggcmlddmckcaaDoorRt
namespace Go.Proofs.YtpggcmlddmckcaaDoor
open Go.RowKit Go.Sort
set_option maxRecDepth 100000

theorem get_list (s : ByteArray) (i : Nat) (h : i < s.size) : s.data.toList[i]? = some (s[i]'h) := by
  rw [List.getElem?_eq_getElem (by simpa using h)]
  simp
  rfl
theorem drop_list (s : ByteArray) (i : Nat) (h : i < s.size) : s.data.toList.drop i = s[i]'h :: s.data.toList.drop (i + 1) := by
  have hl : i < s.data.toList.length := by simpa using h
  have := get_list s i h
  rw [List.getElem?_eq_getElem hl] at this
  injection this with this
  rw [List.drop_eq_getElem_cons hl, this]
theorem gtr_top (s : ByteArray) (w : World) : (binOp .gtr 9 (.string s) (.string ⟨#[57, 50, 50, 51, 51, 55, 50, 48, 51, 54, 56, 53, 52, 55, 55, 53, 56, 48, 55]⟩)).run Tryd.prog w = .ok (.bool (lessB topL s.data.toList)) w := by
  have e1 : s.toList = s.data.toList := Lib.toList_data s
  have e2 : (⟨#[57, 50, 50, 51, 51, 55, 50, 48, 51, 54, 56, 53, 52, 55, 55, 53, 56, 48, 55]⟩ : ByteArray).toList = topL := Lib.toList_data _
  have h := above_bytes s.data.toList
  simp only [binOp, Op.stringOp, e1, e2, Sem.run_pure, Bool.not_or, h]
theorem above_any (s : ByteArray) (w : World) : Calls Tryd.prog 58 #[.string s] w fun e w' => e = .returned (.bool (overB s.data.toList)) ∧ w = w' := by
  have hsl : s.data.toList.length = s.size := by simp
  have hm : (⟨#[57, 50, 50, 51, 51, 55, 50, 48, 51, 54, 56, 53, 52, 55, 55, 53, 56, 48, 55]⟩ : ByteArray).size = 19 := rfl
  refine calls_ev (vs := [.string s]) 21 Tryd.func58 ab_body (by kernel_rfl) (by simp) fun a0 h0 => ?_
  unfold abBody
  refine wp_seq (ab_r0 h0 fun a1 h1 => ?_)
  refine wp_seq (ab_r1 h1 fun a2 h2 => ?_)
  by_cases h19 : 19 < s.size
  · refine wp_seq (ab_r2_t h2 rfl rfl (decide_eq_true (by rw [hm]; omega)) fun a3 h3 => wp_ret ?_)
    exact ret1 rfl h3 rfl ⟨by unfold overB; rw [hsl, decide_eq_true h19]; rfl, rfl⟩
  by_cases he : s.size = 19
  · refine wp_seq (ab_r2_ft h2 rfl rfl (decide_eq_false (by rw [hm]; omega)) (decide_eq_true (by rw [hm]; omega)) (gtr_top s) fun a3 h3 => wp_ret ?_)
    exact ret1 rfl h3 rfl ⟨by unfold overB; rw [hsl, decide_eq_false h19, decide_eq_true he]; rfl, rfl⟩
  · refine wp_seq (ab_r2_ff h2 rfl rfl (decide_eq_false (by rw [hm]; omega)) (decide_eq_false (by rw [hm]; omega)) fun a3 h3 => wp_ret ?_)
    exact ret1 rfl h3 rfl ⟨by unfold overB; rw [hsl, decide_eq_false h19, decide_eq_false he]; rfl, rfl⟩
def signsC : Array Value := (signsL.map fun l => Value.string (bs l)).toArray
theorem signs_any (w : World) : Calls Tryd.prog 48 #[] w fun e w' => e = .returned (.slice (some ⟨w.heap.size, 0, none⟩) 42 42) ∧ w.alloc (.cells signsC 9) = w' := by
  refine calls_ev (vs := []) 2 Tryd.func48 rz_body (by kernel_rfl) (by simp) fun a0 h0 => ?_
  unfold rzBody
  refine wp_seq (rz_r0 h0 fun a1 h1 => ?_)
  refine wp_seq (rz_r1 h1 fun a2 h2 => wp_ret ?_)
  exact ret1 rfl h2 rfl ⟨rfl, rfl⟩

def endWords : List (List UInt8) := [[97, 110, 121], [98, 114, 101, 97, 107], [99, 111, 110, 116, 105, 110, 117, 101], [102, 97, 108, 108, 116, 104, 114, 111, 117, 103, 104], [102, 97, 108, 115, 101], [102, 117, 110, 99], [109, 97, 112], [110, 105, 108], [114, 101, 116, 117, 114, 110], [116, 114, 117, 101]]
theorem ends_word : ∀ x ∈ wordsL, endsL.contains x = endWords.contains x := by decide
theorem ends_sign : ∀ x ∈ signsL, endsL.contains x = (decide (x = [41]) || decide (x = [93]) || decide (x = [125]) || decide (x = [43, 43]) || decide (x = [45, 45])) := by decide
theorem bs_dec (l m : List UInt8) : decide (bs l = bs m) = decide (l = m) := decide_eq_decide.2 ⟨bs_inj, fun h => by rw [h]⟩
theorem ends_any (t : Tok) (hg : TokGood t) (w : World) :
    Calls Tryd.prog 45 #[.agg #[.int .i64 (t.kind : Int), .string (bs t.text), .int .i64 (t.place : Int)]] w fun e w' => e = .returned (.bool (endT t)) ∧ Below w.heap.size w w' := by
  refine calls_ev (vs := [.agg #[.int .i64 (t.kind : Int), .string (bs t.text), .int .i64 (t.place : Int)]]) 53 Tryd.func45 ed_body (by kernel_rfl) (by simp) fun a0 h0 => ?_
  unfold edBody
  refine wp_seq (ed_r0 h0 rfl fun a1 h1 => ?_)
  have hB := Blk.new w 48 #[.int .i64 (t.kind : Int), .string (bs t.text), .int .i64 (t.place : Int)]
  have hb := bl_alloc (Below.refl w.heap.size w) (.cells #[.int .i64 (t.kind : Int), .string (bs t.text), .int .i64 (t.place : Int)] 48)
  generalize w.alloc (.cells #[.int .i64 (t.kind : Int), .string (bs t.text), .int .i64 (t.place : Int)] 48) = w1 at hB hb ⊢
  obtain ⟨g, hgz⟩ : ∃ g, g = w.heap.size := ⟨_, rfl⟩
  rw [← hgz] at h1 hB
  have f0 : Lds Tryd.prog 3 (.pointer (some ⟨g, 0, none⟩)) (.int .i64 (t.kind : Int)) w1 := lds1 Tryd.underlying3 rfl (hB.cell 0)
  have f1 : ∀ w', Blk w' g 48 #[.int .i64 (t.kind : Int), .string (bs t.text), .int .i64 (t.place : Int)] → Lds Tryd.prog 9 (.pointer (some ⟨g, 1, none⟩)) (.string (bs t.text)) w' := fun w' h => lds1 Tryd.underlying9 rfl (h.cell 1)
  refine wp_seq (wp_seq (ed_r1 h1 rfl f0 fun a2 h2 => ?_))
  refine wp_block ?_
  have done : ∀ (b : Bool) a' w', b = endT t → Below w1.heap.size w1 w' → ∀ l', Sl 53 a' l' → l'.lookup 2 = some (.bool b) → bodyPost Tryd.prog Tryd.f45 (fun e w' => e = .returned (.bool (endT t)) ∧ Below w.heap.size w w') .ret a' w' := fun b a' w' hbe hb' l' h' e2 =>
    ret1 rfl h' e2 ⟨by rw [hbe], hb.trans (hb'.mono hb.size)⟩
  have last : ∀ a' w' l', endT t = false → Below w1.heap.size w1 w' → Sl 53 a' l' → (Code.seq (r_ed 16) .ret).wp Tryd.prog (bodyPost Tryd.prog Tryd.f45 (fun e w' => e = .returned (.bool (endT t)) ∧ Below w.heap.size w w')) a' w' := fun a' w' l' he hb' h' =>
    wp_seq (ed_r16 h' fun a'' h'' => wp_ret (done false a'' w' he.symm hb' _ h'' rfl))
  have yes : ∀ (Q : Exit → Act → World → Prop) (c : Code) a' l', endT t = true → Sl 53 a' l' → l'.lookup 7 = some (.bool true) → (∀ a'' w'', bodyPost Tryd.prog Tryd.f45 (fun e w' => e = .returned (.bool (endT t)) ∧ Below w.heap.size w w') .ret a'' w'' → Q .ret a'' w'') → (Code.cond (.tmp 7) (.seq (r_ed 6) .ret) c).wp Tryd.prog Q a' w1 := fun Q c a' l' he h' e7 hQ =>
    wp_cond_true (h'.look 7 e7) (wp_seq (ed_r6 h' fun a'' h'' => wp_ret (show Exit.then (fun _ _ => True) Q .ret a'' w1 from hQ _ _ (done true a'' w1 he.symm (Below.refl _ _) _ h'' rfl))))
  refine wp_seq (wp_seq ?_)
  by_cases k2 : t.kind = 2
  · refine ed_r2 h2 rfl (decide_eq_true (by omega)) fun a3 h3 => wp_cond_true (h3.look 7 rfl) (wp_skip ?_)
    exact yes _ _ a3 _ (by unfold endT; simp [k2]) h3 rfl fun _ _ h => block_ret h
  refine ed_r2 h2 rfl (decide_eq_false (by omega)) fun a3 h3 => wp_cond_false (h3.look 7 rfl) (wp_seq ?_)
  by_cases k4 : t.kind = 4
  · refine ed_r3 h3 rfl (decide_eq_true (by omega)) fun a4 h4 => wp_cond_true (h4.look 7 rfl) (wp_skip ?_)
    exact yes _ _ a4 _ (by unfold endT; simp [k4]) h4 rfl fun _ _ h => block_ret h
  refine ed_r3 h3 rfl (decide_eq_false (by omega)) fun a4 h4 => wp_cond_false (h4.look 7 rfl) (wp_seq ?_)
  by_cases k5 : t.kind = 5
  · refine ed_r4 h4 rfl (decide_eq_true (by omega)) fun a5 h5 => wp_cond_true (h5.look 7 rfl) (wp_skip ?_)
    exact yes _ _ a5 _ (by unfold endT; simp [k5]) h5 rfl fun _ _ h => block_ret h
  refine ed_r4 h4 rfl (decide_eq_false (by omega)) fun a5 h5 => wp_cond_false (h5.look 7 rfl) ?_
  by_cases k6 : t.kind = 6
  · refine wpl (ed_r5 h5 rfl (decide_eq_true (by omega)) fun a6 h6 => ?_)
    exact yes _ _ a6 _ (by unfold endT; simp [k6]) h6 rfl fun _ _ h => block_ret h
  refine wpl (ed_r5 h5 rfl (decide_eq_false (by omega)) fun a6 h6 => ?_)
  show Code.wp _ (Code.cond _ _ _) _ a6 w1
  refine wp_cond_false (h6.look 7 rfl) ?_
  by_cases k7 : t.kind = 7
  · refine wp_seq (ed_r7 h6 rfl (decide_eq_true (by omega)) fun a7 h7 => wp_cond_true (h7.look 12 rfl) ?_)
    have he : endT t = (decide (t.text = [41]) || decide (t.text = [93]) || decide (t.text = [125]) || decide (t.text = [43, 43]) || decide (t.text = [45, 45])) := by
      rw [← ends_sign _ (hg.2 k7)]
      unfold endT
      simp [k7]
    have fin : ∀ (b : Bool) a' l', b = endT t → Sl 53 a' l' → l'.lookup 2 = some (.bool b) → bodyPost Tryd.prog Tryd.f45 (fun e w' => e = .returned (.bool (endT t)) ∧ Below w.heap.size w w') .ret a' w1 := fun b a' l' hb' h' e2 => done b a' w1 hb' (Below.refl _ _) l' h' e2
    by_cases c1 : t.text = [41]
    · refine wp_seq (ed_r8_t h7 rfl (f1 w1 hB) ((bs_dec _ [41]).trans (decide_eq_true c1)) fun a8 h8 => wp_ret ?_)
      repeat (first | with_reducible refine then_ret ?_ | with_reducible refine block_ret ?_)
      exact fin true a8 _ (by rw [he, c1]; rfl) h8 rfl
    by_cases c2 : t.text = [93]
    · refine wp_seq (ed_r8_ft h7 rfl (f1 w1 hB) ((bs_dec _ [41]).trans (decide_eq_false c1)) ((bs_dec _ [93]).trans (decide_eq_true c2)) fun a8 h8 => wp_ret ?_)
      repeat (first | with_reducible refine then_ret ?_ | with_reducible refine block_ret ?_)
      exact fin true a8 _ (by rw [he, c2]; rfl) h8 rfl
    by_cases c3 : t.text = [125]
    · refine wp_seq (ed_r8_fft h7 rfl (f1 w1 hB) ((bs_dec _ [41]).trans (decide_eq_false c1)) ((bs_dec _ [93]).trans (decide_eq_false c2)) ((bs_dec _ [125]).trans (decide_eq_true c3)) fun a8 h8 => wp_ret ?_)
      repeat (first | with_reducible refine then_ret ?_ | with_reducible refine block_ret ?_)
      exact fin true a8 _ (by rw [he, c3]; rfl) h8 rfl
    by_cases c4 : t.text = [43, 43]
    · refine wp_seq (ed_r8_ffft h7 rfl (f1 w1 hB) ((bs_dec _ [41]).trans (decide_eq_false c1)) ((bs_dec _ [93]).trans (decide_eq_false c2)) ((bs_dec _ [125]).trans (decide_eq_false c3)) ((bs_dec _ [43, 43]).trans (decide_eq_true c4)) fun a8 h8 => wp_ret ?_)
      repeat (first | with_reducible refine then_ret ?_ | with_reducible refine block_ret ?_)
      exact fin true a8 _ (by rw [he, c4]; rfl) h8 rfl
    · refine wp_seq (ed_r8_ffff h7 rfl (f1 w1 hB) ((bs_dec _ [41]).trans (decide_eq_false c1)) ((bs_dec _ [93]).trans (decide_eq_false c2)) ((bs_dec _ [125]).trans (decide_eq_false c3)) ((bs_dec _ [43, 43]).trans (decide_eq_false c4)) (bs_dec _ [45, 45]) fun a8 h8 => wp_ret ?_)
      repeat (first | with_reducible refine then_ret ?_ | with_reducible refine block_ret ?_)
      exact fin _ a8 _ (by rw [he]; simp [c1, c2, c3, c4]) h8 rfl
  refine wp_seq (ed_r7 h6 rfl (decide_eq_false (by omega)) fun a7 h7 => wp_cond_false (h7.look 12 rfl) ?_)
  by_cases k3 : t.kind = 3
  · refine wp_seq (ed_r9 h7 rfl (decide_eq_true (by omega)) fun a8 h8 => wp_cond_true (h8.look 37 rfl) ?_)
    have he : endT t = endWords.contains t.text := by
      rw [← ends_word _ (hg.1 k3)]
      unfold endT
      simp [k3]
    refine wp_seq (ed_r10 h8 fun a9 h9 => ?_)
    have hW : Blk (w1.alloc (.cells (endWords.map fun l => Value.string (bs l)).toArray 9)) w1.heap.size 9 (endWords.map fun l => Value.string (bs l)).toArray := Blk.new _ _ _
    have hbw := bl_alloc (Below.refl w1.heap.size w1) (.cells (endWords.map fun l => Value.string (bs l)).toArray 9)
    have hB2 := hB.alloc (.cells (endWords.map fun l => Value.string (bs l)).toArray 9)
    show Code.wp _ _ _ a9 (w1.alloc (.cells (endWords.map fun l => Value.string (bs l)).toArray 9))
    generalize w1.alloc (.cells (endWords.map fun l => Value.string (bs l)).toArray 9) = w2 at hW hbw hB2 ⊢
    obtain ⟨gw, hgw⟩ : ∃ gw, gw = w1.heap.size := ⟨_, rfl⟩
    rw [← hgw] at h9 hW
    refine wp_seq (ed_r11 h9 fun a10 h10 => ?_)
    refine wp_block ?_
    refine wp_loop (fun a' wr => ∃ (j : Nat), j ≤ 10 ∧ (∀ i x, i < j → endWords[i]? = some x → x ≠ t.text) ∧ Sl 53 a' [(4, .int .i64 (j : Int)), (3, .slice (some ⟨gw, 0, none⟩) 10 10), (1, .pointer (some ⟨g, 0, none⟩))] ∧ ∃ m, wr = w2.drewN m) (fun a' _ => muTo 10 (slot a' 4))
      ⟨0, by omega, fun i x h => by omega, h10.to ⟨rfl, rfl, rfl, trivial⟩, 0, rfl⟩ ?_
    rintro a11 _ ⟨j, hj, hno, h11, m, rfl⟩
    rw [h11.look 4 rfl, muTo_int]
    unfold edL0
    refine wp_seq (wp_seq ?_)
    by_cases hlt : j < 10
    · refine ed_r12 h11 rfl rfl (decide_eq_true (by omega)) fun a12 h12 => wpn (h12.look 43 rfl) ?_
      refine wp_seq (wp_block ?_)
      have hjl : j < endWords.length := hlt
      have l1 : Lds Tryd.prog 9 (.pointer (some ⟨gw, j, none⟩)) (.string (bs endWords[j])) (w2.drewN m) := lds1 Tryd.underlying9 rfl (((hW.drewN m).cell j).trans (by simp [hjl]))
      have l2 := f1 (w2.drewN m) (hB2.drewN m)
      by_cases hx : endWords[j] = t.text
      · refine wp_seq (ed_r14 h12 rfl rfl rfl (ix_at (o := j) (sz := 1) j rfl Tryd.underlying43 (by kernel_rfl) hlt (by omega)) l1 l2 ((bs_dec _ _).trans (decide_eq_true hx)) fun a13 m' h13 => wp_cond_true (h13.look 52 rfl) ?_)
        refine wp_seq (ed_r15 h13 fun a14 h14 => wp_ret ?_)
        repeat (first | with_reducible refine then_ret ?_ | with_reducible refine block_ret ?_)
        exact done true a14 _ (by rw [he, ← hx]; exact (List.contains_iff_mem.2 (List.getElem_mem hjl)).symm) (below_drewN (below_drewN hbw m) m') _ h14 rfl
      · refine wp_seq (ed_r14 h12 rfl rfl rfl (ix_at (o := j) (sz := 1) j rfl Tryd.underlying43 (by kernel_rfl) hlt (by omega)) l1 l2 ((bs_dec _ _).trans (decide_eq_false hx)) fun a13 m' h13 => wpc_off (h13.look 52 rfl) ?_)
        refine wpl (ed_r13 h13 rfl (by omega) fun a14 h14 => ?_)
        refine ⟨⟨j + 1, by omega, fun i x hi hx' => ?_, h14.to ⟨rfl, rfl, rfl, trivial⟩, m + m', by simp [World.drewN, Nat.add_assoc]⟩, ?_⟩
        · rcases Nat.lt_or_ge i j with h | h
          · exact hno i x h hx'
          · have : i = j := by omega
            subst this
            rw [List.getElem?_eq_getElem hjl] at hx'
            injection hx' with hx'
            exact fun e => hx (hx'.trans e)
        · rw [h14.look 4 rfl]
          show muTo 10 (.int .i64 ((j + 1 : Nat) : Int)) < _
          rw [muTo_int]
          omega
    · refine ed_r12 h11 rfl rfl (decide_eq_false (by omega)) fun a12 h12 => wpx (h12.look 43 rfl) ?_
      refine then_exit (in_block' (block_norm ?_))
      refine last a12 _ _ ?_ (below_drewN hbw m) h12
      rw [he]
      cases hc : endWords.contains t.text with
      | false => rfl
      | true =>
        obtain ⟨i, hi⟩ := List.getElem?_of_mem (List.contains_iff_mem.1 hc)
        have hil := (List.getElem?_eq_some_iff.1 hi).1
        exact absurd rfl (hno i _ (by have : endWords.length = 10 := rfl; omega) hi)
  · refine wp_seq (ed_r9 h7 rfl (decide_eq_false (by omega)) fun a8 h8 => wpc_off (h8.look 37 rfl) (block_norm ?_))
    refine last a8 w1 _ ?_ (Below.refl _ _) h8
    unfold endT
    simp [k2, k3, k4, k5, k6, k7]
end Go.Proofs.YtpggcmlddmckcaaDoor
