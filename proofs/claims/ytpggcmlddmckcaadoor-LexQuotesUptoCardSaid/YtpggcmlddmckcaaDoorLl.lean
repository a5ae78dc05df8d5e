/-
  The plain laws of tokens line by line: a scan from a place further on; a line feed between two texts. Written by an AI agent.
-/
import Derived.Test.YtpggcmlddmckcaaDoorLx
namespace Go.Proofs.YtpggcmlddmckcaaDoor
set_option maxRecDepth 100000

def shB (k : Nat) (b : Bad) : Bad := ⟨b.code, b.place + k⟩
def shT (k : Nat) (t : Tok) : Tok := ⟨t.kind, t.text, t.place + k⟩
def litSh (k : Nat) : Ans (List UInt8 × Nat) → Ans (List UInt8 × Nat)
  | .ok x => .ok (x.1, x.2 + k)
  | .bad b => .bad (shB k b)
def oneSh (k : Nat) : Ans (Tok × Nat) → Ans (Tok × Nat)
  | .ok x => .ok (shT k x.1, x.2)
  | .bad b => .bad (shB k b)
def scanSh (k : Nat) : Ans (List Tok) → Ans (List Tok)
  | .ok l => .ok (l.map (shT k))
  | .bad b => .bad (shB k b)

theorem lit_shift (k at0 : Nat) : ∀ (n : Nat) (l : List UInt8) (i : Nat) (out : List UInt8), l.length ≤ n → litL (at0 + k) (i + k) out l = litSh k (litL at0 i out l)
  | _, [], i, out, _ => by rw [litL, litL]; rfl
  | 0, _ :: _, _, _, h => by simp at h
  | n + 1, c :: r, i, out, h => by
    have hr : r.length ≤ n := by simpa using h
    rw [litL, litL]
    by_cases h1 : c = 34
    · rw [if_pos h1, if_pos h1]; simp [litSh]; omega
    rw [if_neg h1, if_neg h1]
    by_cases h2 : c = 10
    · rw [if_pos h2, if_pos h2]; rfl
    rw [if_neg h2, if_neg h2]
    by_cases h3 : c = 92
    · rw [if_pos h3, if_pos h3]
      by_cases h4 : (escL r).2 = 0
      · rw [if_pos h4, if_pos h4]; rfl
      · rw [if_neg h4, if_neg h4, show i + k + 1 + (escL r).2 = i + 1 + (escL r).2 + k by omega]
        exact lit_shift k at0 n _ _ _ (by simp; omega)
    · rw [if_neg h3, if_neg h3, show i + k + 1 = i + 1 + k by omega]
      exact lit_shift k at0 n _ _ _ hr
theorem esc_le (r : List UInt8) : (escL r).2 ≤ r.length := by
  cases r with
  | nil => simp [escL]
  | cons c r =>
    simp only [escL]
    repeat' split
    all_goals simp
theorem lit_len (at0 : Nat) : ∀ (n : Nat) (l : List UInt8) (i : Nat) (out : List UInt8) (x : List UInt8 × Nat), l.length ≤ n → litL at0 i out l = .ok x → i < x.2 ∧ x.2 ≤ i + l.length
  | _, [], i, out, x, _, e => by rw [litL] at e; cases e
  | 0, _ :: _, _, _, _, h, _ => by simp at h
  | n + 1, c :: r, i, out, x, h, e => by
    have hr : r.length ≤ n := by simpa using h
    rw [litL] at e
    by_cases h1 : c = 34
    · rw [if_pos h1] at e
      injection e with e
      subst e
      simp
    rw [if_neg h1] at e
    by_cases h2 : c = 10
    · rw [if_pos h2] at e; cases e
    rw [if_neg h2] at e
    by_cases h3 : c = 92
    · rw [if_pos h3] at e
      by_cases h4 : (escL r).2 = 0
      · rw [if_pos h4] at e; cases e
      · rw [if_neg h4] at e
        have := lit_len at0 n _ _ _ x (by simp; omega) e
        have hle : (escL r).2 ≤ r.length := esc_le r
        simp at this ⊢
        omega
    · rw [if_neg h3] at e
      have := lit_len at0 n _ _ _ x hr e
      simp
      omega
theorem one_shift (k at0 : Nat) (l : List UInt8) : oneL (at0 + k) l = oneSh k (oneL at0 l) := by
  cases l with
  | nil => rfl
  | cons c r =>
    rw [oneL, oneL]
    by_cases h1 : c = 59
    · rw [if_pos h1, if_pos h1]; rfl
    rw [if_neg h1, if_neg h1]
    by_cases h2 : c = 34
    · rw [if_pos h2, if_pos h2, show at0 + k + 1 = at0 + 1 + k by omega, lit_shift k at0 r.length r _ _ (Nat.le_refl _)]
      cases h : litL at0 (at0 + 1) [] r with
      | ok x => simp only [litSh, Ans.map, oneSh, shT]; congr 2; omega
      | bad b => rfl
    rw [if_neg h2, if_neg h2]
    have hn : numT (at0 + k) (c :: r) = shT k (numT at0 (c :: r)) := by unfold numT; split <;> rfl
    by_cases h3 : isDig c = true
    · rw [if_pos h3, if_pos h3, hn]
      split <;> rfl
    rw [if_neg h3, if_neg h3]
    by_cases h4 : isLet c = true
    · rw [if_pos h4, if_pos h4]
      split <;> rfl
    rw [if_neg h4, if_neg h4]
    cases signsL.find? (fun x => x.isPrefixOf (c :: r)) <;> rfl
theorem run_le (b : Bool) (l : List UInt8) : runL b l ≤ l.length := by
  unfold runL
  exact (List.takeWhile_sublist _).length_le
theorem run_pos {b : Bool} {c : UInt8} {r : List UInt8} (h : inRun b c = true) : 0 < runL b (c :: r) := by
  unfold runL
  rw [List.takeWhile_cons_of_pos h]
  simp
theorem numPart_le (l : List UInt8) : numPart l + 1 ≤ l.length ∨ numPart l = 0 := by
  unfold numPart
  cases l with
  | nil => exact .inr rfl
  | cons c r =>
    simp only
    split
    · left; have := run_le false r; simp; omega
    · exact .inr rfl
theorem numT_len (at0 : Nat) (l : List UInt8) : (numT at0 l).text.length = if 0 < numPart (l.drop (runL false l)) then runL false l + 1 + numPart (l.drop (runL false l)) else runL false l := by
  have h := run_le false l
  have h2 := numPart_le (l.drop (runL false l))
  unfold numT
  split
  · simp at h2 ⊢; omega
  · simp; omega
theorem sign_len : ∀ x ∈ signsL, 1 ≤ x.length := by decide
theorem one_len (at0 : Nat) (l : List UInt8) (x : Tok × Nat) (e : oneL at0 l = .ok x) : 1 ≤ x.2 ∧ x.2 ≤ l.length := by
  cases l with
  | nil => cases e
  | cons c r =>
    rw [oneL] at e
    by_cases h1 : c = 59
    · rw [if_pos h1] at e; injection e with e; subst e; simp
    rw [if_neg h1] at e
    by_cases h2 : c = 34
    · rw [if_pos h2] at e
      cases h : litL at0 (at0 + 1) [] r with
      | ok y =>
        rw [h] at e
        injection e with e
        subst e
        have := lit_len at0 _ r _ _ y (Nat.le_refl _) h
        simp
        omega
      | bad b => rw [h] at e; cases e
    rw [if_neg h2] at e
    by_cases h3 : isDig c = true
    · rw [if_pos h3] at e
      split at e
      · cases e
      · injection e with e
        subst e
        show 1 ≤ (numT at0 (c :: r)).text.length ∧ (numT at0 (c :: r)).text.length ≤ _
        rw [numT_len]
        have p1 : 0 < runL false (c :: r) := run_pos (by simp [inRun, h3])
        have p2 := run_le false (c :: r)
        have p3 := numPart_le ((c :: r).drop (runL false (c :: r)))
        simp only [List.length_drop] at p3
        split <;> omega
    rw [if_neg h3] at e
    by_cases h4 : isLet c = true
    · rw [if_pos h4] at e
      split at e
      · cases e
      · injection e with e
        subst e
        exact ⟨run_pos (by simp [inRun, h4]), run_le _ _⟩
    rw [if_neg h4] at e
    cases h : signsL.find? (fun x => x.isPrefixOf (c :: r)) with
    | none => rw [h] at e; cases e
    | some y =>
      rw [h] at e
      injection e with e
      subst e
      have hp := List.find?_some h
      have hm := List.mem_of_find?_eq_some h
      exact ⟨sign_len y hm, (List.isPrefixOf_iff_prefix.1 hp).length_le⟩
theorem scan_shift (k : Nat) : ∀ (n : Nat) (l : List UInt8) (at0 : Nat) (e : Bool), l.length ≤ n → scanL (at0 + k) e l = scanSh k (scanL at0 e l)
  | _, [], at0, e, _ => by rw [scanL, scanL]; cases e <;> rfl
  | 0, _ :: _, _, _, h => by simp at h
  | n + 1, c :: r, at0, e, h => by
    have hr : r.length ≤ n := by simpa using h
    have hmap : ∀ (t : Tok) (a : Ans (List Tok)), (scanSh k a).map (shT k t :: ·) = scanSh k (a.map (t :: ·)) := fun t a => by cases a <;> rfl
    rw [scanL, scanL]
    by_cases h1 : c = 10
    · rw [if_pos h1, if_pos h1, show at0 + k + 1 = at0 + 1 + k by omega, scan_shift k n r _ _ hr]
      cases e with
      | true => exact hmap ⟨1, [], at0⟩ _
      | false => rfl
    rw [if_neg h1, if_neg h1]
    by_cases h2 : c = 32 ∨ c = 9
    · rw [if_pos h2, if_pos h2, show at0 + k + 1 = at0 + 1 + k by omega]
      exact scan_shift k n r _ _ hr
    rw [if_neg h2, if_neg h2]
    by_cases h3 : c = 47 ∧ r.head? = some 47
    · rw [if_pos h3, if_pos h3, show at0 + k + 1 + remL r = at0 + 1 + remL r + k by omega]
      exact scan_shift k n _ _ _ (by simp; omega)
    rw [if_neg h3, if_neg h3, one_shift]
    cases h4 : oneL at0 (c :: r) with
    | bad b => rfl
    | ok x =>
      simp only [oneSh]
      rw [show at0 + k + 1 + (x.2 - 1) = at0 + 1 + (x.2 - 1) + k by omega, show endT (shT k x.1) = endT x.1 from rfl, scan_shift k n _ _ _ (by simp; omega)]
      exact hmap _ _

theorem esc_nl (l m : List UInt8) : escL (l ++ 10 :: m) = escL l := by
  have hx : ¬ (0 : Int) ≤ hexV 10 := by decide
  cases l with
  | nil => simp [escL]
  | cons c r =>
    simp only [List.cons_append, escL]
    cases r with
    | nil =>
      cases m with
      | nil => simp
      | cons y m => simp [hx]
    | cons a r =>
      cases r with
      | nil => simp [hx]
      | cons b r => simp
theorem lit_nl (at0 : Nat) (m : List UInt8) : ∀ (n : Nat) (l : List UInt8) (i : Nat) (out : List UInt8), l.length ≤ n → litL at0 i out (l ++ 10 :: m) = litL at0 i out l
  | _, [], i, out, _ => by
    rw [List.nil_append, litL, litL, if_neg (by decide), if_pos rfl]
  | 0, _ :: _, _, _, h => by simp at h
  | n + 1, c :: r, i, out, h => by
    have hr : r.length ≤ n := by simpa using h
    rw [List.cons_append, litL, litL, esc_nl]
    by_cases h1 : c = 34
    · rw [if_pos h1, if_pos h1]
    rw [if_neg h1, if_neg h1]
    by_cases h2 : c = 10
    · rw [if_pos h2, if_pos h2]
    rw [if_neg h2, if_neg h2]
    by_cases h3 : c = 92
    · rw [if_pos h3, if_pos h3]
      by_cases h4 : (escL r).2 = 0
      · rw [if_pos h4, if_pos h4]
      · rw [if_neg h4, if_neg h4, List.drop_append_of_le_length (esc_le r)]
        exact lit_nl at0 m n _ _ _ (by simp; omega)
    · rw [if_neg h3, if_neg h3]
      exact lit_nl at0 m n _ _ _ hr
theorem takeWhile_stop {p : UInt8 → Bool} {x : UInt8} (hx : p x = false) (l m : List UInt8) : (l ++ x :: m).takeWhile p = l.takeWhile p := by
  induction l with
  | nil => rw [List.nil_append, List.takeWhile_cons_of_neg (by simp [hx])]; rfl
  | cons c l ih =>
    rw [List.cons_append, List.takeWhile_cons, List.takeWhile_cons]
    split
    · rw [ih]
    · rfl
theorem run_nl (b : Bool) (l m : List UInt8) : runL b (l ++ 10 :: m) = runL b l := by
  unfold runL
  rw [takeWhile_stop (by cases b <;> decide)]
theorem rem_nl (l m : List UInt8) : remL (l ++ 10 :: m) = remL l := by
  unfold remL
  rw [takeWhile_stop (by decide)]
theorem numPart_nl (l m : List UInt8) : numPart (l ++ 10 :: m) = numPart l := by
  unfold numPart
  cases l with
  | nil => simp
  | cons c r => simp only [List.cons_append, run_nl]
theorem num_nl (at0 : Nat) (l m : List UInt8) : numT at0 (l ++ 10 :: m) = numT at0 l := by
  have h := run_le false l
  have h2 := numPart_le (l.drop (runL false l))
  unfold numT
  rw [run_nl, List.drop_append_of_le_length h, numPart_nl]
  simp only [List.length_drop] at h2
  split
  · rw [List.take_append_of_le_length (by omega)]
  · rw [List.take_append_of_le_length (by omega)]
theorem numBad_nl (c : UInt8) (r m : List UInt8) : numBad (c :: r ++ 10 :: m) = numBad (c :: r) := by
  have h := run_le false (c :: r)
  have h2 := numPart_le ((c :: r).drop (runL false (c :: r)))
  have h3 : (numT 0 (c :: r)).text.length ≤ (c :: r).length := by
    rw [numT_len]
    simp only [List.length_drop] at h2
    split <;> omega
  unfold numBad
  rw [run_nl, num_nl, List.drop_append_of_le_length h, numPart_nl, List.drop_append_of_le_length h3, run_nl, List.take_append_of_le_length h]
  rfl
theorem sign_no10 : ∀ x ∈ signsL, ∀ b ∈ x, b ≠ 10 ∧ b ≠ 32 ∧ b ≠ 9 := by decide
theorem prefix_nl : ∀ (x l m : List UInt8), (∀ b ∈ x, b ≠ 10) → x.isPrefixOf (l ++ 10 :: m) = x.isPrefixOf l
  | [], l, m, _ => by simp
  | a :: x, [], m, h => by
    have := h a (by simp)
    simp [List.isPrefixOf, this]
  | a :: x, c :: l, m, h => by
    simp only [List.cons_append, List.isPrefixOf]
    rw [prefix_nl x l m (fun b hb => h b (by simp [hb]))]
theorem find_congr {p q : List UInt8 → Bool} : ∀ (L : List (List UInt8)), (∀ x ∈ L, p x = q x) → L.find? p = L.find? q
  | [], _ => rfl
  | x :: L, h => by
    rw [List.find?_cons, List.find?_cons, h x (by simp), find_congr L (fun y hy => h y (by simp [hy]))]
theorem one_nl (at0 : Nat) (c : UInt8) (r m : List UInt8) : oneL at0 (c :: r ++ 10 :: m) = oneL at0 (c :: r) := by
  have hr1 := run_nl true (c :: r) m
  have hn := num_nl at0 (c :: r) m
  have hb := numBad_nl c r m
  have hl := lit_nl at0 m r.length r (at0 + 1) [] (Nat.le_refl _)
  have ht := List.take_append_of_le_length (l₂ := 10 :: m) (run_le true (c :: r))
  have hf : signsL.find? (fun x => x.isPrefixOf (c :: (r ++ 10 :: m))) = signsL.find? (fun x => x.isPrefixOf (c :: r)) :=
    find_congr _ fun x hx => prefix_nl x (c :: r) m (fun b hb => (sign_no10 x hx b hb).1)
  rw [List.cons_append] at hr1 hn hb ht ⊢
  rw [oneL, oneL, hl, hb, hn, hr1, ht, hf]
theorem map_nil (a : Ans (List Tok)) : a.map ([] ++ ·) = a := by cases a <;> rfl
/-- A line feed between two texts. -/
theorem scan_nl (m : List UInt8) : ∀ (n : Nat) (l : List UInt8) (at0 : Nat) (e : Bool), l.length ≤ n → scanL at0 e (l ++ 10 :: m) = match scanL at0 e l with
    | .bad b => .bad b
    | .ok a => (scanL (at0 + l.length + 1) false m).map (a ++ ·)
  | _, [], at0, e, _ => by
    rw [List.nil_append, scanL, scanL, if_pos rfl]
    cases e with
    | true => rfl
    | false => exact (map_nil _).symm
  | 0, _ :: _, _, _, h => by simp at h
  | n + 1, c :: r, at0, e, h => by
    have hr : r.length ≤ n := by simpa using h
    have hmap : ∀ (t : Tok) (u : Nat) (a : Ans (List Tok)), (match a with | .bad b => Ans.bad b | .ok a => (scanL u false m).map (a ++ ·)).map (t :: ·) = match a.map (t :: ·) with | .bad b => Ans.bad b | .ok a => (scanL u false m).map (a ++ ·) := fun t u a => by
      cases a with
      | bad b => rfl
      | ok a => cases scanL u false m <;> rfl
    have hone := one_nl at0 c r m
    rw [List.cons_append] at hone ⊢
    rw [scanL, scanL]
    have hlen : ∀ j, at0 + j + r.length + 1 = at0 + (r.length + j) + 1 := fun j => by omega
    by_cases h1 : c = 10
    · rw [if_pos h1, if_pos h1, scan_nl m n r _ _ hr]
      rw [List.length_cons, show at0 + 1 + r.length + 1 = at0 + (r.length + 1) + 1 by omega]
      cases e with
      | true => exact hmap _ _ _
      | false => rfl
    rw [if_neg h1, if_neg h1]
    by_cases h2 : c = 32 ∨ c = 9
    · rw [if_pos h2, if_pos h2, scan_nl m n r _ _ hr, List.length_cons, show at0 + 1 + r.length + 1 = at0 + (r.length + 1) + 1 by omega]
    rw [if_neg h2, if_neg h2]
    have hh : (r ++ 10 :: m).head? = some 47 ↔ r.head? = some 47 := by cases r <;> simp
    by_cases h3 : c = 47 ∧ r.head? = some 47
    · have hle : remL r ≤ r.length := (List.takeWhile_sublist _).length_le
      rw [if_pos h3, if_pos ⟨h3.1, hh.2 h3.2⟩, rem_nl, List.drop_append_of_le_length hle, scan_nl m n _ _ _ (by simp; omega), List.length_drop, List.length_cons, show at0 + 1 + remL r + (r.length - remL r) + 1 = at0 + (r.length + 1) + 1 by omega]
    rw [if_neg h3, if_neg (fun g => h3 ⟨g.1, hh.1 g.2⟩), hone]
    cases h4 : oneL at0 (c :: r) with
    | bad b => rfl
    | ok x =>
      obtain ⟨g1, g2⟩ := one_len at0 _ x h4
      simp only [List.length_cons] at g2
      simp only
      rw [List.drop_append_of_le_length (by omega), scan_nl m n _ _ _ (by simp; omega), List.length_drop, List.length_cons, show at0 + 1 + (x.2 - 1) + (r.length - (x.2 - 1)) + 1 = at0 + (r.length + 1) + 1 by omega]
      exact hmap _ _ _
end Go.Proofs.YtpggcmlddmckcaaDoor
