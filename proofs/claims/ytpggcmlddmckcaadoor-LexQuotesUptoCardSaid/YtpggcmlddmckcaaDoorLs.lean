/-
  The plain law of where tokens stand: one behind the other, nothing but blanks and remarks between. Written by an AI agent.
-/
import Derived.Test.YtpggcmlddmckcaaDoorLl
namespace Go.Proofs.YtpggcmlddmckcaaDoor
set_option maxRecDepth 100000

/-- Nothing but blanks, tabs, line feeds and remarks. -/
def betwL : List UInt8 → Bool
  | [] => true
  | c :: r => if c = 47 ∧ r.head? = some 47 then betwL (r.drop (remL r + 1)) else (decide (c = 32 ∨ c = 9 ∨ c = 10) && betwL r)
termination_by l => l.length
decreasing_by all_goals (simp; try omega)
/-- How many bytes the literal has at the front of a text, that says something; 0: none. From length k on, at most m lengths. -/
def lenFrom (q says : List UInt8) : Nat → Nat → Nat
  | _, 0 => 0
  | k, m + 1 => if q.length < k then 0 else if q[k - 1]? ≠ some 34 then lenFrom q says (k + 1) m else
      match unquote (q.take k) with
        | .ok t => if t = says then k else 0
        | .bad _ => lenFrom q says (k + 1) m
def lenL (s : List UInt8) (i : Nat) (says : List UInt8) : Nat := lenFrom (s.drop i) says 2 s.length

def tokN (s : List UInt8) (t : Tok) : Nat := if t.kind = 1 then (if t.place < s.length then 1 else 0) else if t.kind = 6 then lenL s t.place t.text else t.text.length
def TokOk (s : List UInt8) (t : Tok) : Prop :=
  (t.kind = 1 ∧ t.text = [] ∧ (t.place < s.length → s[t.place]? = some 59 ∨ s[t.place]? = some 10)) ∨ (t.kind = 6 ∧ lenL s t.place t.text ≠ 0) ∨
  ((t.kind = 2 ∨ t.kind = 3 ∨ t.kind = 4 ∨ t.kind = 5 ∨ t.kind = 7) ∧ t.text ≠ [] ∧ t.place + t.text.length ≤ s.length ∧ (s.drop t.place).take t.text.length = t.text ∧ nameB t.text = decide (t.kind = 2) ∧ wordB t.text = decide (t.kind = 3))
def Stands (s : List UInt8) : Nat → List Tok → Prop
  | a, [] => a ≤ s.length ∧ betwL (s.drop a) = true
  | a, t :: l => a ≤ t.place ∧ t.place ≤ s.length ∧ betwL ((s.drop a).take (t.place - a)) = true ∧ TokOk s t ∧ Stands s (t.place + tokN s t) l

def Shut (g : List UInt8) : Prop := ∀ h, betwL (g ++ h) = betwL h
def Opn (g : List UInt8) : Prop := betwL g = true ∧ ∀ h, betwL (g ++ 10 :: h) = betwL h
theorem betw_blank {c : UInt8} (hc : c = 32 ∨ c = 9 ∨ c = 10) (h : List UInt8) : betwL (c :: h) = betwL h := by
  rw [betwL, if_neg (fun g => by rcases hc with rfl | rfl | rfl <;> exact absurd g.1 (by decide)), decide_eq_true hc, Bool.true_and]
theorem Shut.opn {g : List UInt8} (h : Shut g) : Opn g := ⟨by have := h []; rw [List.append_nil] at this; rw [this, betwL], fun r => by rw [h, betw_blank (.inr (.inr rfl))]⟩
theorem Shut.nil : Shut [] := fun _ => rfl
theorem Shut.blank {g : List UInt8} (h : Shut g) {c : UInt8} (hc : c = 32 ∨ c = 9 ∨ c = 10) : Shut (g ++ [c]) := fun r => by
  rw [List.append_assoc, h, List.singleton_append, betw_blank hc]
theorem Opn.feed {g : List UInt8} (h : Opn g) : Shut (g ++ [10]) := fun r => by
  rw [List.append_assoc, List.singleton_append, h.2]
theorem rem_take (r : List UInt8) : remL (r.take (remL r)) = remL r ∧ (r.take (remL r)).length = remL r ∧ ∀ h, remL (r.take (remL r) ++ 10 :: h) = remL r := by
  have h1 : r.take (remL r) = r.takeWhile (fun c => decide (c ≠ 10)) := take_all r
  have h2 : remL (r.take (remL r)) = remL r := by
    rw [h1]; unfold remL; rw [while_while]
  refine ⟨h2, by rw [h1]; rfl, fun h => by rw [rem_nl, h2]⟩
theorem Shut.rem {g : List UInt8} (h : Shut g) {r : List UInt8} (hr : r.head? = some 47) : Opn (g ++ 47 :: r.take (remL r)) := by
  obtain ⟨e1, e2, e3⟩ := rem_take r
  have hpos : 0 < remL r := by
    cases r with
    | nil => cases hr
    | cons c r => simp at hr; subst hr; simp [remL]
  have hh : (r.take (remL r)).head? = some 47 := by
    cases r with
    | nil => cases hr
    | cons c r => cases hn : remL (c :: r) with
      | zero => omega
      | succ n => simpa using hr
  have hh2 : ∀ m, (r.take (remL r) ++ m).head? = some 47 := fun m => by
    cases hx : r.take (remL r) with
    | nil => rw [hx] at hh; cases hh
    | cons c t => rw [hx] at hh; simpa using hh
  refine ⟨?_, fun m => ?_⟩
  · rw [h, betwL, if_pos ⟨rfl, hh⟩, e1, List.drop_of_length_le (by rw [e2]; omega), betwL]
  · rw [List.append_assoc, h, List.cons_append, betwL, if_pos ⟨rfl, hh2 _⟩, e3, ← List.drop_drop, List.drop_left' e2]
    rfl

theorem wordB_iff (l : List UInt8) : wordB l = true ↔ l ∈ wordsL := by unfold wordB; exact List.contains_iff_mem
theorem words_head : ∀ x ∈ wordsL, (match x with | [] => false | c :: _ => isLet c) = true := by decide
theorem word_no {c : UInt8} {r : List UInt8} (h : isLet c = false) : wordB (c :: r) = false := by
  rw [← Bool.not_eq_true, wordB_iff]
  intro hm
  have := words_head _ hm
  simp only [h] at this
  cases this
theorem dig_let : ∀ c : UInt8, isDig c = true → isLet c = false := by
  apply byte_all
  decide +kernel
theorem signs_no : ∀ x ∈ signsL, nameB x = false ∧ wordB x = false := by decide
/-- A token but a literal stands there. -/
theorem one_stands (at0 : Nat) (c : UInt8) (r : List UInt8) (x : Tok × Nat) (h34 : c ≠ 34) (h59 : c ≠ 59) (e : oneL at0 (c :: r) = .ok x) :
    (x.1.kind = 2 ∨ x.1.kind = 3 ∨ x.1.kind = 4 ∨ x.1.kind = 5 ∨ x.1.kind = 7) ∧ x.1.place = at0 ∧ x.1.text ≠ [] ∧ x.2 = x.1.text.length ∧ (c :: r).take x.2 = x.1.text ∧ nameB x.1.text = decide (x.1.kind = 2) ∧ wordB x.1.text = decide (x.1.kind = 3) := by
  have hlen := one_len at0 _ x e
  rw [oneL, if_neg h59, if_neg h34] at e
  by_cases h3 : isDig c = true
  · rw [if_pos h3] at e
    split at e
    · cases e
    · injection e with e
      subst e
      have hp : 0 < runL false (c :: r) := run_pos (by simp [inRun, h3])
      have ht : ∃ n k, (k = 4 ∨ k = 5) ∧ 0 < n ∧ n ≤ (c :: r).length ∧ numT at0 (c :: r) = ⟨k, (c :: r).take n, at0⟩ := by
        have h2 := numPart_le ((c :: r).drop (runL false (c :: r)))
        have h4 := run_le false (c :: r)
        simp only [List.length_drop] at h2
        unfold numT
        split
        · exact ⟨_, 5, .inr rfl, by omega, by omega, rfl⟩
        · exact ⟨_, 4, .inl rfl, hp, h4, rfl⟩
      obtain ⟨n, k, hk, hn, hle, ht⟩ := ht
      rw [ht]
      cases n with
      | zero => omega
      | succ n =>
        have hl := dig_let c h3
        have hnm : nameB (c :: r.take n) = false := by simp [nameB, hl]
        have hw : wordB (c :: r.take n) = false := word_no hl
        simp only [List.take_succ_cons, List.length_cons] at hle ⊢
        refine ⟨by omega, trivial, by simp, trivial, ?_, ?_, ?_⟩
        · simp only [List.length_take, List.cons.injEq, true_and]
          rw [Nat.min_eq_left (by omega)]
        · rw [hnm, decide_eq_false (by omega)]
        · rw [hw, decide_eq_false (by omega)]
  rw [if_neg h3] at e
  by_cases h4 : isLet c = true
  · rw [if_pos h4] at e
    split at e
    · cases e
    · rename_i h40
      injection e with e
      subst e
      have hp : 0 < runL true (c :: r) := run_pos (by simp [inRun, h4])
      have hle := run_le true (c :: r)
      simp only at hlen ⊢
      have hl : ((c :: r).take (runL true (c :: r))).length = runL true (c :: r) := by simp only [List.length_take]; omega
      have hnm : nameB ((c :: r).take (runL true (c :: r))) = !wordB ((c :: r).take (runL true (c :: r))) := by
        have hall : ((c :: r).take (runL true (c :: r))).all (inRun true) = true := by
          unfold runL
          rw [take_all]
          exact List.all_takeWhile
        unfold nameB
        rw [hall, hl, decide_eq_true (by omega)]
        cases hn : runL true (c :: r) with
        | zero => omega
        | succ n => simp [h4]
      refine ⟨by split <;> simp, trivial, fun h => by rw [h] at hl; simp at hl; omega, hl.symm, trivial, ?_, ?_⟩
      · rw [hnm]
        cases wordB ((c :: r).take (runL true (c :: r))) <;> simp
      · cases wordB ((c :: r).take (runL true (c :: r))) <;> simp
  rw [if_neg h4] at e
  cases h : signsL.find? (fun x => x.isPrefixOf (c :: r)) with
  | none => rw [h] at e; cases e
  | some y =>
    rw [h] at e
    injection e with e
    subst e
    have hp0 := List.find?_some h
    have hp := List.isPrefixOf_iff_prefix.1 hp0
    have hm := List.mem_of_find?_eq_some h
    obtain ⟨n1, n2⟩ := signs_no y hm
    have := sign_len y hm
    exact ⟨by simp, rfl, fun h => by rw [show y = [] from h] at this; simp at this, rfl, (List.prefix_iff_eq_take.1 hp).symm, n1, n2⟩

theorem esc_take (r : List UInt8) (j : Nat) : (j < (escL r).2 → (escL (r.take j)).2 = 0) ∧ ((escL r).2 ≤ j → (escL r).2 ≠ 0 → escL (r.take j) = escL r) := by
  cases r with
  | nil => simp [escL]
  | cons c r =>
    by_cases h1 : c = 110
    · cases j <;> simp [escL, h1]
    by_cases h2 : c = 116
    · cases j <;> simp [escL, h2]
    by_cases h3 : c = 92 ∨ c = 34
    · have e : ∀ m, escL (c :: m) = (c, 1) := fun m => by simp only [escL, if_neg h1, if_neg h2, if_pos h3]
      cases j with
      | zero => rw [List.take_zero, e]; exact ⟨fun _ => rfl, fun h => absurd h (show ¬ 1 ≤ 0 by decide)⟩
      | succ j => simp [e]
    by_cases h4 : c = 120
    · subst h4
      match r, j with
      | [], 0 => simp [escL]
      | [], j + 1 => simp [escL]
      | [a], 0 => simp [escL]
      | [a], 1 => simp [escL]
      | [a], j + 2 => simp [escL]
      | a :: b :: r, j =>
        have e : ∀ m, escL (120 :: a :: b :: m) = if 0 ≤ hexV a ∧ 0 ≤ hexV b then (UInt8.ofNat (16 * hexV a + hexV b).toNat, 3) else (0, 0) := fun m => by simp [escL]
        have e1 : (escL [120]).2 = 0 := by simp [escL]
        have e2 : (escL [120, a]).2 = 0 := by simp [escL]
        rw [e]
        match j with
        | 0 => exact ⟨fun _ => rfl, fun h h0 => by split at h <;> simp_all⟩
        | 1 => exact ⟨fun _ => e1, fun h h0 => by split at h <;> simp_all⟩
        | 2 => exact ⟨fun _ => e2, fun h h0 => by split at h <;> simp_all⟩
        | j + 3 =>
          rw [List.take_succ_cons, List.take_succ_cons, List.take_succ_cons, e]
          exact ⟨fun h => by split at h <;> simp at h <;> omega, fun _ _ => rfl⟩
    · have e : ∀ m, escL (c :: m) = (0, 0) := fun m => by simp only [escL, if_neg h1, if_neg h2, if_neg h3, if_neg h4]
      cases j with
      | zero => rw [List.take_zero, e]; exact ⟨fun h => absurd h (by decide), fun _ h => absurd rfl h⟩
      | succ j => simp [e]
theorem lit_take (at0 : Nat) : ∀ (n : Nat) (l : List UInt8) (i : Nat) (out : List UInt8) (x : List UInt8 × Nat), l.length ≤ n → litL at0 i out l = .ok x →
    (∀ j, j < x.2 - i → ∃ b, litL at0 i out (l.take j) = .bad b) ∧ litL at0 i out (l.take (x.2 - i)) = .ok x ∧ l[x.2 - i - 1]? = some 34
  | _, [], i, out, x, _, e => by rw [litL] at e; cases e
  | 0, _ :: _, _, _, _, h, _ => by simp at h
  | n + 1, c :: r, i, out, x, h, e => by
    have hr : r.length ≤ n := by simpa using h
    have hlen := lit_len at0 _ (c :: r) i out x (Nat.le_refl _) e
    rw [litL] at e
    by_cases h1 : c = 34
    · rw [if_pos h1] at e
      injection e with e
      subst e
      subst h1
      simp only [Nat.add_sub_cancel_left]
      refine ⟨fun j hj => ?_, ?_, rfl⟩
      · rw [show j = 0 by omega, List.take_zero, litL]; exact ⟨_, rfl⟩
      · rw [List.take_succ_cons, List.take_zero, litL, if_pos rfl]
    rw [if_neg h1] at e
    by_cases h2 : c = 10
    · rw [if_pos h2] at e; cases e
    rw [if_neg h2] at e
    by_cases h3 : c = 92
    · rw [if_pos h3] at e
      by_cases h4 : (escL r).2 = 0
      · rw [if_pos h4] at e; cases e
      · rw [if_neg h4] at e
        have hl2 := lit_len at0 _ _ _ _ x (Nat.le_refl _) e
        obtain ⟨g1, g2, g3⟩ := lit_take at0 n _ _ _ x (by simp; omega) e
        refine ⟨fun j hj => ?_, ?_, ?_⟩
        · cases j with
          | zero => rw [List.take_zero, litL]; exact ⟨_, rfl⟩
          | succ j =>
            rw [List.take_succ_cons, litL, if_neg h1, if_neg h2, if_pos h3]
            rcases Nat.lt_or_ge j (escL r).2 with hj2 | hj2
            · rw [if_pos ((esc_take r j).1 hj2)]; exact ⟨_, rfl⟩
            · rw [(esc_take r j).2 hj2 h4, if_neg h4, List.drop_take]
              exact g1 _ (by omega)
        · rw [show x.2 - i = (x.2 - i - 1) + 1 by omega, List.take_succ_cons, litL, if_neg h1, if_neg h2, if_pos h3, (esc_take r _).2 (by omega) h4, if_neg h4, List.drop_take, show x.2 - i - 1 - (escL r).2 = x.2 - (i + 1 + (escL r).2) by omega]
          exact g2
        · rw [show x.2 - i - 1 = (x.2 - (i + 1 + (escL r).2) - 1 + (escL r).2) + 1 by omega, List.getElem?_cons_succ]
          rw [List.getElem?_drop, Nat.add_comm] at g3
          exact g3
    · rw [if_neg h3] at e
      have hl2 := lit_len at0 _ _ _ _ x (Nat.le_refl _) e
      obtain ⟨g1, g2, g3⟩ := lit_take at0 n _ _ _ x hr e
      refine ⟨fun j hj => ?_, ?_, ?_⟩
      · cases j with
        | zero => rw [List.take_zero, litL]; exact ⟨_, rfl⟩
        | succ j =>
          rw [List.take_succ_cons, litL, if_neg h1, if_neg h2, if_neg h3]
          exact g1 _ (by omega)
      · rw [show x.2 - i = (x.2 - (i + 1)) + 1 by omega, List.take_succ_cons, litL, if_neg h1, if_neg h2, if_neg h3]
        exact g2
      · rw [show x.2 - i - 1 = (x.2 - (i + 1) - 1) + 1 by omega, List.getElem?_cons_succ]
        exact g3
theorem lit_out (at0 : Nat) : ∀ (n : Nat) (l : List UInt8) (i : Nat) (out : List UInt8) (x : List UInt8 × Nat), l.length ≤ n → litL at0 i out l = .ok x → x.1.length ≤ out.length + l.length
  | _, [], i, out, x, _, e => by rw [litL] at e; cases e
  | 0, _ :: _, _, _, _, h, _ => by simp at h
  | n + 1, c :: r, i, out, x, h, e => by
    have hr : r.length ≤ n := by simpa using h
    rw [litL] at e
    by_cases h1 : c = 34
    · rw [if_pos h1] at e
      injection e with e
      subst e
      simp
    rw [if_neg h1] at e
    by_cases h2 : c = 10
    · rw [if_pos h2] at e; cases e
    rw [if_neg h2] at e
    by_cases h3 : c = 92
    · rw [if_pos h3] at e
      by_cases h4 : (escL r).2 = 0
      · rw [if_pos h4] at e; cases e
      · rw [if_neg h4] at e
        have := lit_out at0 n _ _ _ x (by simp; omega) e
        simp at this ⊢
        omega
    · rw [if_neg h3] at e
      have := lit_out at0 n _ _ _ x hr e
      simp at this ⊢
      omega
theorem unq_take {at0 : Nat} {r : List UInt8} {x : List UInt8 × Nat} (e : litL at0 (at0 + 1) [] r = .ok x) (hs : r.length ≤ 65536) :
    (∀ k, 1 ≤ k → k < x.2 - at0 → ∃ b, unquote ((34 :: r).take k) = .bad b) ∧ unquote ((34 :: r).take (x.2 - at0)) = .ok x.1 ∧ (34 :: r)[x.2 - at0 - 1]? = some 34 := by
  have hl := lit_len at0 _ r _ _ x (Nat.le_refl _) e
  have ho := lit_out at0 _ r _ _ x (Nat.le_refl _) e
  have hsh := lit_shift at0 0 _ r 1 [] (Nat.le_refl _)
  rw [show 0 + at0 = at0 by omega, show 1 + at0 = at0 + 1 by omega, e] at hsh
  cases h0 : litL 0 1 [] r with
  | bad b => rw [h0] at hsh; cases hsh
  | ok y =>
    rw [h0] at hsh
    injection hsh with hsh
    have hy1 : y.1 = x.1 := by rw [hsh]
    have hy2 : y.2 + at0 = x.2 := by rw [hsh]
    obtain ⟨g1, g2, g3⟩ := lit_take 0 _ r 1 [] y (Nat.le_refl _) h0
    refine ⟨fun k h1 h2 => ?_, ?_, ?_⟩
    · obtain ⟨b, hb⟩ := g1 (k - 1) (by omega)
      rw [show k = (k - 1) + 1 by omega, List.take_succ_cons, unquote, if_pos rfl, hb]
      exact ⟨_, rfl⟩
    · rw [show x.2 - at0 = (y.2 - 1) + 1 by omega, List.take_succ_cons, unquote, if_pos rfl, g2]
      simp only [List.length_take]
      have hl0 := lit_len 0 _ r _ _ y (Nat.le_refl _) h0
      rw [if_neg (by omega), if_neg (by rw [hy1]; simp at ho; omega), hy1]
    · rw [show x.2 - at0 - 1 = (y.2 - 1 - 1) + 1 by omega, List.getElem?_cons_succ]
      exact g3
theorem lenFrom_hit {q says : List UInt8} {n : Nat} (hn : n ≤ q.length) (h34 : q[n - 1]? = some 34) (hok : unquote (q.take n) = .ok says) (hbad : ∀ k, 1 ≤ k → k < n → ∃ b, unquote (q.take k) = .bad b) :
    ∀ (m k : Nat), 1 ≤ k → k ≤ n → n < k + m → lenFrom q says k m = n
  | 0, k, _, _, h => by omega
  | m + 1, k, h1, h2, h3 => by
    rw [lenFrom, if_neg (by omega)]
    by_cases hkn : k = n
    · subst hkn
      rw [if_neg (by rw [h34]; simp), hok]
      simp
    · have hnext := lenFrom_hit hn h34 hok hbad m (k + 1) (by omega) (by omega) (by omega)
      split
      · exact hnext
      · obtain ⟨b, hb⟩ := hbad k h1 (by omega)
        rw [hb]
        exact hnext
theorem drop_rem : ∀ r : List UInt8, r.drop (remL r) = [] ∨ (r.drop (remL r)).head? = some 10
  | [] => .inl rfl
  | c :: r => by
    by_cases h : c = 10
    · subst h; exact .inr rfl
    · have e : remL (c :: r) = remL r + 1 := by unfold remL; rw [List.takeWhile_cons_of_pos (by simpa using h)]; rfl
      rw [e, List.drop_succ_cons]
      exact drop_rem r
theorem scan_stands (s : List UInt8) (hs : s.length ≤ 60000) : ∀ (n : Nat) (p g rest : List UInt8) (at0 : Nat) (e : Bool) (l : List Tok), rest.length ≤ n → s = p ++ (g ++ rest) → at0 = p.length + g.length →
    (Shut g ∨ (Opn g ∧ (rest = [] ∨ rest.head? = some 10))) → scanL at0 e rest = .ok l → Stands s p.length l
  | _, p, g, [], at0, e, l, _, hsp, ha, hg, hl => by
    have hb : betwL g = true := hg.elim (fun hg => hg.opn.1) (fun hg => hg.1.1)
    have hd : s.drop p.length = g := by rw [hsp, List.append_nil, List.drop_left]
    have hz : s.length = p.length + g.length := by rw [hsp]; simp
    rw [scanL] at hl
    injection hl with hl
    subst hl
    cases e with
    | false => exact ⟨by omega, by rw [hd]; exact hb⟩
    | true =>
      rw [if_pos rfl]
      refine ⟨by show _ ≤ at0; omega, by show at0 ≤ _; omega, ?_, .inl ⟨rfl, rfl, fun h => absurd h (by show ¬ at0 < _; omega)⟩, ?_⟩
      · rw [hd, List.take_of_length_le (by show _ ≤ at0 - _; omega)]; exact hb
      · have h0 : tokN s ⟨1, [], at0⟩ = 0 := by unfold tokN; rw [if_pos rfl, if_neg (by show ¬ at0 < _; omega)]
        rw [h0]
        exact ⟨by show at0 ≤ _; omega, by rw [List.drop_of_length_le (by show _ ≤ at0; omega), betwL]⟩
  | 0, _, _, _ :: _, _, _, _, h, _, _, _, _ => by simp at h
  | n + 1, p, g, c :: r, at0, e, l, h, hsp, ha, hg, hl => by
    have hr : r.length ≤ n := by simpa using h
    have hb : betwL g = true := hg.elim (fun hg => hg.opn.1) (fun hg => hg.1.1)
    have hz : s.length = p.length + g.length + (r.length + 1) := by rw [hsp]; simp; omega
    have hd : s.drop p.length = g ++ c :: r := by rw [hsp, List.drop_left]
    have hda : s.drop at0 = c :: r := by rw [hsp, ← List.append_assoc, List.drop_left' (by simp [ha])]
    have htk : (s.drop p.length).take (at0 - p.length) = g := by rw [hd, List.take_left' (by omega)]
    have hca : s[at0]? = some c := by have := congrArg (fun q => q[0]?) hda; simpa using this
    rw [scanL] at hl
    by_cases h1 : c = 10
    · rw [if_pos h1] at hl
      subst h1
      cases e with
      | false =>
        have hg2 : Shut (g ++ [10]) := hg.elim (fun hg => hg.opn.feed) (fun hg => hg.1.feed)
        exact scan_stands s hs n p (g ++ [10]) r (at0 + 1) false l hr (by rw [hsp]; simp) (by simp; omega) (.inl hg2) hl
      | true =>
        rw [if_pos rfl] at hl
        cases h2 : scanL (at0 + 1) false r with
        | bad b => rw [h2] at hl; cases hl
        | ok l' =>
          rw [h2] at hl
          injection hl with hl
          subst hl
          have hn : tokN s ⟨1, [], at0⟩ = 1 := by unfold tokN; rw [if_pos rfl, if_pos (by show at0 < _; omega)]
          refine ⟨by show _ ≤ at0; omega, by show at0 ≤ _; omega, by rw [htk]; exact hb, .inl ⟨rfl, rfl, fun _ => .inr hca⟩, ?_⟩
          rw [hn]
          have hrec := scan_stands s hs n (p ++ g ++ [10]) [] r (at0 + 1) false l' hr (by rw [hsp]; simp) (by simp; omega) (.inl Shut.nil) h2
          have hq : (p ++ g ++ [(10 : UInt8)]).length = at0 + 1 := by simp; omega
          rw [hq] at hrec
          exact hrec
    rw [if_neg h1] at hl
    have hsh : Shut g := by
      rcases hg with hg | ⟨_, hg | hg⟩
      · exact hg
      · cases hg
      · simp at hg; exact absurd hg h1
    by_cases h2 : c = 32 ∨ c = 9
    · rw [if_pos h2] at hl
      exact scan_stands s hs n p (g ++ [c]) r (at0 + 1) e l hr (by rw [hsp]; simp) (by simp; omega) (.inl (hsh.blank (by rcases h2 with h | h <;> simp [h]))) hl
    rw [if_neg h2] at hl
    by_cases h3 : c = 47 ∧ r.head? = some 47
    · rw [if_pos h3] at hl
      obtain ⟨rfl, h3⟩ := h3
      obtain ⟨e1, e2, _⟩ := rem_take r
      have hle : remL r ≤ r.length := (List.takeWhile_sublist _).length_le
      have hrest : r.drop (remL r) = [] ∨ (r.drop (remL r)).head? = some 10 := drop_rem r
      exact scan_stands s hs n p (g ++ 47 :: r.take (remL r)) (r.drop (remL r)) (at0 + 1 + remL r) e l (by simp; omega) (by rw [hsp]; simp) (by simp only [List.length_append, List.length_cons, e2]; omega) (.inr ⟨hsh.rem h3, hrest⟩) hl
    rw [if_neg h3] at hl
    cases h4 : oneL at0 (c :: r) with
    | bad b => rw [h4] at hl; cases hl
    | ok x =>
      rw [h4] at hl
      simp only at hl
      obtain ⟨g1, g2⟩ := one_len at0 _ x h4
      simp only [List.length_cons] at g2
      cases h5 : scanL (at0 + 1 + (x.2 - 1)) (endT x.1) (r.drop (x.2 - 1)) with
      | bad b => rw [h5] at hl; cases hl
      | ok l' =>
        rw [h5] at hl
        injection hl with hl
        subst hl
        have hdrop : r.drop (x.2 - 1) = (c :: r).drop x.2 := by rw [show x.2 = (x.2 - 1) + 1 by omega]; rfl
        have hlt : ((c :: r).take x.2).length = x.2 := by simp; omega
        have hrec := scan_stands s hs n (p ++ g ++ (c :: r).take x.2) [] (r.drop (x.2 - 1)) (at0 + 1 + (x.2 - 1)) (endT x.1) l' (by simp; omega)
          (by rw [hsp, hdrop, List.nil_append, List.append_assoc, List.append_assoc, List.take_append_drop]) (by simp only [List.length_append, hlt, List.length_nil]; omega) (.inl Shut.nil) h5
        rw [show (p ++ g ++ (c :: r).take x.2).length = at0 + x.2 by simp only [List.length_append, hlt]; omega] at hrec
        have hplace : x.1.place = at0 ∧ TokOk s x.1 ∧ tokN s x.1 = x.2 := by
          by_cases h59 : c = 59
          · subst h59
            rw [oneL, if_pos rfl] at h4
            injection h4 with h4
            subst h4
            exact ⟨rfl, .inl ⟨rfl, rfl, fun _ => .inl hca⟩, by unfold tokN; rw [if_pos rfl, if_pos (by show at0 < _; omega)]⟩
          by_cases h34 : c = 34
          · subst h34
            rw [oneL, if_neg h59, if_pos rfl] at h4
            cases h6 : litL at0 (at0 + 1) [] r with
            | bad b => rw [h6] at h4; cases h4
            | ok y =>
              rw [h6] at h4
              injection h4 with h4
              subst h4
              obtain ⟨u1, u2, u3⟩ := unq_take h6 (by omega)
              have hl2 := lit_len at0 _ r _ _ y (Nat.le_refl _) h6
              have hlen : lenL s at0 y.1 = y.2 - at0 := by
                unfold lenL
                rw [hda]
                exact lenFrom_hit (by simp; omega) u3 u2 u1 _ _ (by omega) (by omega) (by omega)
              refine ⟨rfl, .inr (.inl ⟨rfl, ?_⟩), ?_⟩
              · show lenL s at0 y.1 ≠ 0; omega
              · show tokN s ⟨6, y.1, at0⟩ = _
                unfold tokN; rw [if_neg (show ¬ (6 : Nat) = 1 by decide), if_pos rfl]; exact hlen
          · obtain ⟨k1, k2, k3, k4, k5, k6, k7⟩ := one_stands at0 c r x h34 h59 h4
            refine ⟨k2, .inr (.inr ⟨k1, k3, by omega, ?_, k6, k7⟩), ?_⟩
            · rw [k2, hda, ← k4]; exact k5
            · unfold tokN; rw [if_neg (by omega), if_neg (by omega)]; exact k4.symm
        obtain ⟨hp, hok, hn⟩ := hplace
        refine ⟨by omega, by omega, by rw [hp, htk]; exact hb, hok, ?_⟩
        rw [hp, hn]
        exact hrec
/-- Each token of a text that is taken stands there, one behind the other. -/
theorem stands_of (s : List UInt8) (l : List Tok) (h : scan s = .ok l) : Stands s 0 l := by
  unfold scan at h
  split at h
  · cases h
  · exact scan_stands s (by omega) _ [] [] s 0 false l (Nat.le_refl _) rfl rfl (.inl Shut.nil) h
end Go.Proofs.YtpggcmlddmckcaaDoor
