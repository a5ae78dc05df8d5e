/-
  The plain law of blanks: blanks put in ahead of tokens, remarks ahead of line feeds that end something: the same tokens, further on. Written by an AI agent.
-/
import Derived.Test.YtpggcmlddmckcaaDoorLs
namespace Go.Proofs.YtpggcmlddmckcaaDoor
set_option maxRecDepth 100000

/-- What may be put in ahead of a token. -/
def Ins (line : Bool) (x : List UInt8) : Prop := x = [] ∨ x = [32] ∨ x = [9, 32] ∨ (line = true ∧ (x = [32, 47, 47, 32, 34, 120] ∨ x = [47, 47, 47]))
def lineB (s : List UInt8) (t : Tok) : Bool := decide (t.kind = 1) && (decide (t.place = s.length) || s[t.place]? == some 10)
/-- The text with what is put in, and its tokens. -/
def mixL (s : List UInt8) (ch : Nat → Bool → List UInt8) : Nat → Nat → Nat → List Tok → List UInt8 × List Tok
  | _, a, _, [] => (s.drop a, [])
  | i, a, bl, t :: l => ((s.drop a).take (t.place - a) ++ (ch i (lineB s t) ++ (mixL s ch (i + 1) t.place (bl + ((s.drop a).take (t.place - a)).length + (ch i (lineB s t)).length) l).1),
      ⟨t.kind, t.text, bl + ((s.drop a).take (t.place - a)).length + (ch i (lineB s t)).length⟩ :: (mixL s ch (i + 1) t.place (bl + ((s.drop a).take (t.place - a)).length + (ch i (lineB s t)).length) l).2)

def Soft (c : UInt8) : Prop := c = 32 ∨ c = 9 ∨ c = 47
/-- Two texts that part at something put in. -/
def Agree (e : Bool) (x y : List UInt8) : Prop := ∃ q u v, x = q ++ u ∧ y = q ++ v ∧ ((u = [] ∧ v = []) ∨ ∃ c v', v = c :: v' ∧ (c = 32 ∨ c = 9 ∨ (c = 47 ∧ (q = [] → e = true))))
theorem Agree.cons {e e' : Bool} {x y : List UInt8} (h : Agree e x y) (w : List UInt8) (hw : w ≠ []) : Agree e' (w ++ x) (w ++ y) := by
  obtain ⟨q, u, v, rfl, rfl, h⟩ := h
  refine ⟨w ++ q, u, v, by simp, by simp, ?_⟩
  rcases h with h | ⟨c, v', h1, h2⟩
  · exact .inl h
  · refine .inr ⟨c, v', h1, ?_⟩
    rcases h2 with h2 | h2 | ⟨h2, _⟩
    · exact .inl h2
    · exact .inr (.inl h2)
    · exact .inr (.inr ⟨h2, fun h => absurd (List.append_eq_nil_iff.1 h).1 hw⟩)
theorem Agree.ins {e line : Bool} {z x : List UInt8} (hz : Ins line z) (hn : z ≠ []) (hl : line = true → e = true) (y : List UInt8) : Agree e x (z ++ y) := by
  refine ⟨[], x, z ++ y, rfl, rfl, .inr ?_⟩
  rcases hz with rfl | rfl | rfl | ⟨h, rfl | rfl⟩
  · exact absurd rfl hn
  · exact ⟨_, _, rfl, .inl rfl⟩
  · exact ⟨_, _, rfl, .inr (.inl rfl)⟩
  · exact ⟨_, _, rfl, .inl rfl⟩
  · exact ⟨_, _, rfl, .inr (.inr ⟨rfl, fun _ => hl h⟩)⟩

theorem soft_run {b : Bool} {c : UInt8} (h : Soft c) : inRun b c = false := by
  rcases h with rfl | rfl | rfl <;> cases b <;> decide
theorem run_agree (b : Bool) {c : UInt8} (hc : Soft c) (v : List UInt8) : ∀ (w u : List UInt8), runL b (w ++ u) ≤ w.length → runL b (w ++ c :: v) = runL b (w ++ u)
  | [], u, h => by
    unfold runL at h ⊢
    simp only [List.nil_append] at h ⊢
    rw [List.takeWhile_cons_of_neg (by simp [soft_run hc])]
    simp at h ⊢
    simp [h]
  | a :: w, u, h => by
    unfold runL at h ⊢
    simp only [List.cons_append] at h ⊢
    by_cases ha : inRun b a = true
    · rw [List.takeWhile_cons_of_pos ha] at h ⊢
      rw [List.takeWhile_cons_of_pos ha]
      have := run_agree b hc v w u (by unfold runL; simpa using h)
      unfold runL at this
      simp [this]
    · rw [List.takeWhile_cons_of_neg ha, List.takeWhile_cons_of_neg ha]
theorem part_agree {c : UInt8} (hc : Soft c) (v w u : List UInt8) (h : numPart (w ++ u) + 1 ≤ w.length ∨ numPart (w ++ u) = 0) : numPart (w ++ c :: v) = numPart (w ++ u) := by
  cases w with
  | nil =>
    rcases h with h | h
    · simp at h
    · rw [h, List.nil_append, numPart, if_neg (by rcases hc with rfl | rfl | rfl <;> decide)]
  | cons d w =>
    simp only [List.cons_append, numPart] at h ⊢
    by_cases h46 : d = 46
    · simp only [if_pos h46, List.length_cons] at h ⊢
      exact run_agree false hc v w u (by omega)
    · simp only [if_neg h46]
theorem esc_app (l m : List UInt8) (h : (escL l).2 ≠ 0) : escL (l ++ m) = escL l := by
  cases l with
  | nil => simp [escL] at h
  | cons c r =>
    rw [List.cons_append]
    by_cases h1 : c = 110
    · simp [escL, h1]
    by_cases h2 : c = 116
    · simp [escL, h2]
    by_cases h3 : c = 92 ∨ c = 34
    · simp only [escL, if_neg h1, if_neg h2, if_pos h3]
    by_cases h4 : c = 120
    · subst h4
      match r with
      | [] => simp [escL] at h
      | [a] => simp [escL] at h
      | a :: b :: r => simp [escL]
    · simp [escL, h1, h2, h3, h4] at h
theorem lit_app (at0 : Nat) (m : List UInt8) : ∀ (n : Nat) (l : List UInt8) (i : Nat) (out : List UInt8) (x : List UInt8 × Nat), l.length ≤ n → litL at0 i out l = .ok x → litL at0 i out (l ++ m) = .ok x
  | _, [], i, out, x, _, e => by rw [litL] at e; cases e
  | 0, _ :: _, _, _, _, h, _ => by simp at h
  | n + 1, c :: r, i, out, x, h, e => by
    have hr : r.length ≤ n := by simpa using h
    rw [litL] at e
    rw [List.cons_append, litL]
    by_cases h1 : c = 34
    · rw [if_pos h1] at e ⊢; exact e
    rw [if_neg h1] at e ⊢
    by_cases h2 : c = 10
    · rw [if_pos h2] at e; cases e
    rw [if_neg h2] at e ⊢
    by_cases h3 : c = 92
    · rw [if_pos h3] at e ⊢
      by_cases h4 : (escL r).2 = 0
      · rw [if_pos h4] at e; cases e
      · rw [if_neg h4] at e
        rw [esc_app r m h4, if_neg h4, List.drop_append_of_le_length (esc_le r)]
        exact lit_app at0 m n _ _ _ x (by simp; omega) e
    · rw [if_neg h3] at e ⊢
      exact lit_app at0 m n _ _ _ x hr e
theorem prefix_app : ∀ (y w u : List UInt8), y.length ≤ w.length → y.isPrefixOf (w ++ u) = y.isPrefixOf w
  | [], w, u, _ => by simp
  | a :: y, [], u, h => by simp at h
  | a :: y, b :: w, u, h => by
    simp only [List.cons_append, List.isPrefixOf]
    rw [prefix_app y w u (by simpa using h)]
theorem prefix_soft {c : UInt8} : ∀ (y w v : List UInt8), w.length < y.length → (∀ b, y[w.length]? = some b → b ≠ c) → y.isPrefixOf (w ++ c :: v) = false
  | [], w, v, h, _ => by simp at h
  | a :: y, [], v, _, hb => by
    have := hb a rfl
    simp [List.isPrefixOf, this]
  | a :: y, b :: w, v, h, hb => by
    simp only [List.cons_append, List.isPrefixOf]
    rw [prefix_soft y w v (by simpa using h) (fun x hx => hb x (by simpa using hx))]
    simp
theorem sign_tail : ∀ y ∈ signsL, ∀ b ∈ y.tail, b ≠ 32 ∧ b ≠ 9 ∧ b ≠ 47 := by decide
theorem find_agree {p q : List UInt8 → Bool} {x : List UInt8} : ∀ (L : List (List UInt8)), L.find? p = some x → q x = true → (∀ y ∈ L, p y = false → q y = false) → L.find? q = some x
  | [], h, _, _ => by cases h
  | y :: L, h, hx, hq => by
    rw [List.find?_cons] at h ⊢
    cases hp : p y with
    | true =>
      rw [hp] at h
      injection h with h
      subst h
      rw [hx]
    | false =>
      rw [hp] at h
      rw [hq y (by simp) hp]
      exact find_agree L h hx (fun z hz => hq z (by simp [hz]))
theorem one_place (at0 : Nat) (l : List UInt8) (x : Tok × Nat) (e : oneL at0 l = .ok x) : x.1.place = at0 := by
  cases l with
  | nil => cases e
  | cons c r =>
    by_cases h59 : c = 59
    · subst h59; rw [oneL, if_pos rfl] at e; injection e with e; subst e; rfl
    by_cases h34 : c = 34
    · rw [oneL, if_neg h59, if_pos h34] at e
      cases h : litL at0 (at0 + 1) [] r with
      | bad b => rw [h] at e; cases e
      | ok y => rw [h] at e; injection e with e; subst e; rfl
    · exact (one_stands at0 c r x h34 h59 e).2.1
/-- A token is read as before where the text parts behind it at something put in. -/
theorem one_agree (at0 at1 : Nat) {c : UInt8} (hc : Soft c) (v w u : List UInt8) (x : Tok × Nat) (e : oneL at0 (w ++ u) = .ok x) (hn : x.2 ≤ w.length) : oneL at1 (w ++ c :: v) = .ok (⟨x.1.kind, x.1.text, at1⟩, x.2) := by
  have h1 := (one_len at0 _ x e).1
  cases w with
  | nil => simp at hn; omega
  | cons d w =>
    rw [List.cons_append] at e ⊢
    rw [oneL] at e ⊢
    by_cases g1 : d = 59
    · rw [if_pos g1] at e ⊢; injection e with e; subst e; rfl
    rw [if_neg g1] at e ⊢
    by_cases g2 : d = 34
    · rw [if_pos g2] at e ⊢
      cases h : litL at0 (at0 + 1) [] (w ++ u) with
      | bad b => rw [h] at e; cases e
      | ok y =>
        rw [h] at e
        injection e with e
        subst e
        have hl := lit_len at0 _ _ _ _ y (Nat.le_refl _) h
        simp only [List.length_cons] at hn
        obtain ⟨_, t2, _⟩ := lit_take at0 _ _ _ _ y (Nat.le_refl _) h
        rw [List.take_append_of_le_length (by omega)] at t2
        have t3 := lit_app at0 (w.drop (y.2 - (at0 + 1)) ++ c :: v) _ _ _ _ y (Nat.le_refl _) t2
        rw [← List.append_assoc, List.take_append_drop] at t3
        -- from place at0 to at1
        have s0 := lit_shift 0 at0 _ (w ++ c :: v) 1 [] (Nat.le_refl _)
        have s1 := lit_shift at0 0 _ (w ++ c :: v) 1 [] (Nat.le_refl _)
        have s2 := lit_shift at1 0 _ (w ++ c :: v) 1 [] (Nat.le_refl _)
        rw [show 0 + at0 = at0 by omega, show 1 + at0 = at0 + 1 by omega, t3] at s1
        rw [show 0 + at1 = at1 by omega, show 1 + at1 = at1 + 1 by omega] at s2
        rw [s2]
        cases h0 : litL 0 1 [] (w ++ c :: v) with
        | bad b => rw [h0] at s1; cases s1
        | ok z =>
          rw [h0] at s1
          injection s1 with s1
          subst s1
          simp only [litSh, Ans.map, Ans.ok.injEq, Prod.mk.injEq, true_and]
          omega
    rw [if_neg g2] at e ⊢
    by_cases g3 : isDig d = true
    · rw [if_pos g3] at e ⊢
      split at e
      · cases e
      · rename_i hb
        injection e with e
        subst e
        rw [← List.cons_append] at hn hb ⊢
        rw [← List.cons_append]
        have hlen := numT_len at0 (d :: w ++ u)
        simp only at hn
        have hrl : runL false (d :: w ++ u) ≤ (d :: w).length := by rw [hlen] at hn; split at hn <;> omega
        have hr := run_agree false hc v (d :: w) u hrl
        have hd1 : (d :: w ++ u).drop (runL false (d :: w ++ u)) = (d :: w).drop (runL false (d :: w ++ u)) ++ u := List.drop_append_of_le_length hrl
        have hd2 : (d :: w ++ c :: v).drop (runL false (d :: w ++ u)) = (d :: w).drop (runL false (d :: w ++ u)) ++ c :: v := List.drop_append_of_le_length hrl
        have hp : numPart ((d :: w ++ c :: v).drop (runL false (d :: w ++ c :: v))) = numPart ((d :: w ++ u).drop (runL false (d :: w ++ u))) := by
          rw [hr, hd2, hd1]
          refine part_agree hc v _ u ?_
          rw [← hd1]
          rw [hlen] at hn
          simp only [List.length_drop]
          split at hn
          · left; omega
          · right; omega
        have ht1 : ∀ k, k ≤ (d :: w).length → (d :: w ++ c :: v).take k = (d :: w ++ u).take k := fun k hk => by
          rw [List.take_append_of_le_length hk, List.take_append_of_le_length hk]
        have hT : ∀ a, numT a (d :: w ++ c :: v) = ⟨(numT at0 (d :: w ++ u)).kind, (numT at0 (d :: w ++ u)).text, a⟩ := fun a => by
          rw [hlen] at hn
          unfold numT
          rw [hp, hr]
          split at hn
          · next hx => rw [if_pos hx, if_pos hx, ht1 _ hn]
          · next hx => rw [if_neg hx, if_neg hx, ht1 _ hn]
        have htx : (numT 0 (d :: w ++ u)).text = (numT at0 (d :: w ++ u)).text := by unfold numT; split <;> rfl
        have hB : numBad (d :: w ++ c :: v) = false := by
          have hb : numBad (d :: w ++ u) = false := by simpa using hb
          unfold numBad at hb ⊢
          rw [hp, hr, hT 0]
          rw [htx] at hb
          simp only at hb ⊢
          simp only [Bool.or_eq_false_iff, decide_eq_false_iff_not] at hb ⊢
          refine ⟨⟨?_, ?_⟩, ?_⟩
          · rw [ht1 _ hrl]; exact hb.1.1
          · rw [List.drop_append_of_le_length hn]
            have h2 := hb.1.2
            rw [List.drop_append_of_le_length hn] at h2
            rw [run_agree true hc v _ u (by omega)]
            exact h2
          · have := hb.2; simpa using this
        rw [hB, if_neg (by decide), hT at1]
    rw [if_neg g3] at e ⊢
    by_cases g4 : isLet d = true
    · rw [if_pos g4] at e ⊢
      split at e
      · cases e
      · rename_i h40
        injection e with e
        subst e
        rw [← List.cons_append] at hn h40 ⊢
        rw [← List.cons_append]
        simp only at hn
        have hr := run_agree true hc v (d :: w) u hn
        rw [hr, if_neg h40, List.take_append_of_le_length hn, List.take_append_of_le_length hn]
    rw [if_neg g4] at e ⊢
    cases h : signsL.find? (fun x => x.isPrefixOf (d :: (w ++ u))) with
    | none => rw [h] at e; cases e
    | some y =>
      rw [h] at e
      injection e with e
      subst e
      simp only at hn
      have hp := List.find?_some h
      rw [← List.cons_append, prefix_app y (d :: w) u hn] at hp
      have hq : signsL.find? (fun x => x.isPrefixOf (d :: (w ++ c :: v))) = some y := by
        refine find_agree _ h ?_ (fun z hz hpz => ?_)
        · rw [← List.cons_append, prefix_app y (d :: w) _ hn]; exact hp
        · rw [← List.cons_append] at hpz ⊢
          rcases Nat.lt_or_ge (d :: w).length z.length with hlt | hge
          · refine prefix_soft z (d :: w) v hlt (fun b hb he => ?_)
            have hm : b ∈ z.tail := by
              cases z with
              | nil => simp at hlt
              | cons z0 z => exact List.mem_of_getElem? (by simpa using hb)
            have := sign_tail z hz b hm
            subst he
            rcases hc with hc | hc | hc
            · exact this.1 hc
            · exact this.2.1 hc
            · exact this.2.2 hc
          · rw [prefix_app z (d :: w) _ hge]
            rw [prefix_app z (d :: w) _ hge] at hpz
            exact hpz
      rw [hq]
