/-
  Plain laws of a scan: where its tokens stand, how many there are, where it may be wrong. Written by an AI agent.
-/
import Derived.Test.YtpggcmlddmckcaaDoorLb
namespace Go.Proofs.YtpggcmlddmckcaaDoor
set_option maxRecDepth 100000

theorem lit_bad (at0 : Nat) : ∀ (n : Nat) (l : List UInt8) (i : Nat) (out : List UInt8) (b : Bad), l.length ≤ n → litL at0 i out l = .bad b → b.place = at0 ∨ (i ≤ b.place ∧ b.place ≤ i + l.length)
  | _, [], i, out, b, _, e => by
    rw [litL] at e
    injection e with e
    subst e
    exact .inl rfl
  | 0, _ :: _, _, _, _, h, _ => by simp at h
  | n + 1, c :: r, i, out, b, h, e => by
    have hr : r.length ≤ n := by simpa using h
    rw [litL] at e
    by_cases h1 : c = 34
    · rw [if_pos h1] at e; cases e
    rw [if_neg h1] at e
    by_cases h2 : c = 10
    · rw [if_pos h2] at e; injection e with e; subst e; exact .inl rfl
    rw [if_neg h2] at e
    by_cases h3 : c = 92
    · rw [if_pos h3] at e
      by_cases h4 : (escL r).2 = 0
      · rw [if_pos h4] at e; injection e with e; subst e; exact .inr ⟨Nat.le_refl _, Nat.le_add_right _ _⟩
      rw [if_neg h4] at e
      have hl := esc_le r
      rcases lit_bad at0 n _ _ _ b (by simp; omega) e with h5 | ⟨h5, h6⟩
      · exact .inl h5
      · simp only [List.length_drop] at h6
        refine .inr ⟨by omega, by simp only [List.length_cons]; omega⟩
    · rw [if_neg h3] at e
      rcases lit_bad at0 n _ _ _ b hr e with h5 | ⟨h5, h6⟩
      · exact .inl h5
      · exact .inr ⟨by omega, by simp only [List.length_cons]; omega⟩
theorem one_bad (at0 : Nat) (l : List UInt8) (b : Bad) (e : oneL at0 l = .bad b) : b.place ≤ at0 + l.length := by
  cases l with
  | nil => rw [oneL] at e; injection e with e; subst e; exact Nat.le_add_right _ _
  | cons c r =>
    rw [oneL] at e
    by_cases h1 : c = 59
    · rw [if_pos h1] at e; cases e
    rw [if_neg h1] at e
    by_cases h2 : c = 34
    · rw [if_pos h2] at e
      cases h : litL at0 (at0 + 1) [] r with
      | bad b' =>
        rw [h] at e
        injection e with e
        subst e
        rcases lit_bad at0 r.length r _ _ _ (Nat.le_refl _) h with h5 | ⟨h5, h6⟩
        · omega
        · simp only [List.length_cons]; omega
      | ok y => rw [h] at e; cases e
    rw [if_neg h2] at e
    split at e
    · split at e
      · injection e with e; subst e; exact Nat.le_add_right _ _
      · cases e
    split at e
    · split at e
      · injection e with e; subst e; exact Nat.le_add_right _ _
      · cases e
    split at e
    · cases e
    · injection e with e; subst e; exact Nat.le_add_right _ _
def PlaceP (at0 : Nat) (l : List UInt8) : Ans (List Tok) → Prop
  | .ok ts => ts.length ≤ l.length + 1 ∧ ∀ t ∈ ts, t.place ≤ at0 + l.length
  | .bad b => b.place ≤ at0 + l.length
theorem PlaceP.more {at0 k : Nat} {l m : List UInt8} {a : Ans (List Tok)} (h : PlaceP (at0 + k) m a) (hk : m.length + k ≤ l.length) : PlaceP at0 l a := by
  cases a with
  | bad b => exact Nat.le_trans h (by omega)
  | ok ts => exact ⟨Nat.le_trans h.1 (by omega), fun t ht => Nat.le_trans (h.2 t ht) (by omega)⟩
theorem PlaceP.cons {at0 k : Nat} {l m : List UInt8} {a : Ans (List Tok)} (h : PlaceP (at0 + k) m a) (hk : m.length + k ≤ l.length) (h1 : 1 ≤ k) (t : Tok) (ht : t.place = at0) : PlaceP at0 l (a.map (t :: ·)) := by
  cases a with
  | bad b => exact Nat.le_trans h (by omega)
  | ok ts => exact ⟨by have := h.1; simp only [List.length_cons]; omega, fun u hu => by
      rcases List.mem_cons.1 hu with rfl | hu
      · omega
      · exact Nat.le_trans (h.2 u hu) (by omega)⟩
theorem scan_places : ∀ (n : Nat) (l : List UInt8) (at0 : Nat) (e : Bool), l.length ≤ n → PlaceP at0 l (scanL at0 e l)
  | _, [], at0, e, _ => by
    rw [scanL]
    cases e <;> simp [PlaceP]
  | 0, _ :: _, _, _, h => by simp at h
  | n + 1, c :: r, at0, e, h => by
    have hr : r.length ≤ n := by simpa using h
    rw [scanL]
    by_cases h1 : c = 10
    · rw [if_pos h1]
      cases e with
      | true => exact (scan_places n r _ _ hr).cons (by simp) (by omega) _ rfl
      | false => exact (scan_places n r _ _ hr).more (by simp)
    rw [if_neg h1]
    by_cases h2 : c = 32 ∨ c = 9
    · rw [if_pos h2]
      exact (scan_places n r _ _ hr).more (by simp)
    rw [if_neg h2]
    by_cases h3 : c = 47 ∧ r.head? = some 47
    · rw [if_pos h3]
      have hle : remL r ≤ r.length := (List.takeWhile_sublist _).length_le
      have := scan_places n (r.drop (remL r)) (at0 + 1 + remL r) e (by simp; omega)
      rw [Nat.add_assoc] at this ⊢
      exact this.more (by simp; omega)
    rw [if_neg h3]
    cases h4 : oneL at0 (c :: r) with
    | bad b => exact one_bad at0 _ b h4
    | ok x =>
      obtain ⟨g1, g2⟩ := one_len at0 _ x h4
      simp only [List.length_cons] at g2
      have hp := one_place at0 _ x h4
      have := scan_places n (r.drop (x.2 - 1)) (at0 + 1 + (x.2 - 1)) (endT x.1) (by simp; omega)
      show PlaceP at0 _ (Ans.map _ _)
      rw [Nat.add_assoc] at this ⊢
      exact this.cons (by simp; omega) (by omega) _ hp
/-- A line feed between two texts, from their starts. -/
theorem scan_two (l m : List UInt8) (h : l.length + 1 + m.length ≤ 60000) : scan (l ++ 10 :: m) = match scan l with
    | .bad b => .bad b
    | .ok a => match scan m with
      | .bad b => .bad (shB (l.length + 1) b)
      | .ok c => .ok (a ++ c.map (shT (l.length + 1))) := by
  unfold scan
  rw [if_neg (by simp; omega), if_neg (by omega), if_neg (by omega), scan_nl m l.length l 0 false (Nat.le_refl _)]
  cases scanL 0 false l with
  | bad b => rfl
  | ok a =>
    have := scan_shift (l.length + 1) m.length m 0 false (Nat.le_refl _)
    simp only
    rw [show 0 + l.length + 1 = 0 + (l.length + 1) by omega, this]
    cases scanL 0 false m <;> rfl
end Go.Proofs.YtpggcmlddmckcaaDoor
