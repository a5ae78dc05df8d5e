/-
  Contract of Scan in package lex. Written by an AI agent.
-/
import Derived.Test.YtpggcmlddmckcaaDoorSc1
import Derived.Test.YtpggcmlddmckcaaDoorLs
namespace Go.Proofs.YtpggcmlddmckcaaDoor
open Go.RowKit Go.Sort
set_option maxRecDepth 100000

theorem one_good (at0 : Nat) (l : List UInt8) (x : Tok × Nat) (e : oneL at0 l = .ok x) : TokGood x.1 := by
  cases l with
  | nil => cases e
  | cons c r =>
    by_cases h59 : c = 59
    · subst h59; rw [oneL, if_pos rfl] at e; injection e with e; subst e; exact ⟨fun h => by simp at h, fun h => by simp at h⟩
    by_cases h34 : c = 34
    · rw [oneL, if_neg h59, if_pos h34] at e
      cases h : litL at0 (at0 + 1) [] r with
      | bad b => rw [h] at e; cases e
      | ok y => rw [h] at e; injection e with e; subst e; exact ⟨fun h => by simp at h, fun h => by simp at h⟩
    have hw := (one_stands at0 c r x h34 h59 e).2.2.2.2.2.2
    refine ⟨fun h => (wordB_iff _).1 (by rw [hw, h]; rfl), fun h => ?_⟩
    rw [oneL, if_neg h59, if_neg h34] at e
    by_cases h3 : isDig c = true
    · rw [if_pos h3] at e
      split at e
      · cases e
      · injection e with e
        subst e
        exfalso
        revert h
        show (numT at0 (c :: r)).kind = 7 → False
        unfold numT
        split <;> simp
    rw [if_neg h3] at e
    by_cases h4 : isLet c = true
    · rw [if_pos h4] at e
      split at e
      · cases e
      · injection e with e
        subst e
        exfalso
        revert h
        show (if wordB ((c :: r).take (runL true (c :: r))) = true then 3 else 2) = 7 → False
        split <;> simp
    rw [if_neg h4] at e
    cases hf : signsL.find? (fun x => x.isPrefixOf (c :: r)) with
    | none => rw [hf] at e; cases e
    | some y =>
      rw [hf] at e
      injection e with e
      subst e
      exact List.mem_of_find?_eq_some hf
theorem index_rem : ∀ l : List UInt8, (remL l < l.length ∧ Lib.indexByte l 10 = remL l) ∨ (remL l = l.length ∧ Lib.indexByte l 10 = -1)
  | [] => .inr ⟨rfl, rfl⟩
  | c :: l => by
    have ih := index_rem l
    unfold remL at ih ⊢
    unfold Lib.indexByte
    rw [List.takeWhile_cons]
    by_cases h : c = 10
    · subst h
      simp
    · have hb : (c == 10) = false := by simpa using h
      have hd : decide (c ≠ 10) = true := by simpa using h
      rw [hb, hd]
      simp only [if_true, Bool.false_eq_true, if_false]
      rcases ih with ⟨h1, h2⟩ | ⟨h1, h2⟩
      · refine .inl ⟨by simp only [List.length_cons]; omega, ?_⟩
        have hn : (Lib.indexByte l 10 == -1) = false := by rw [h2, beq_eq_false_iff_ne]; omega
        rw [hn, h2]
        simp
      · refine .inr ⟨by simp only [List.length_cons]; omega, ?_⟩
        rw [h2]
        rfl
theorem rem_pre (c : UInt8) (r : List UInt8) : Lib.hasPrefix (c :: r) [47, 47] = decide (c = 47 ∧ r.head? = some 47) := by
  unfold Lib.hasPrefix
  cases r with
  | nil => simp [List.isPrefixOf]
  | cons d r =>
    rw [Bool.eq_iff_iff]
    simp [List.isPrefixOf]
    constructor
    · rintro ⟨h1, h2⟩; exact ⟨h1.symm, h2.symm⟩
    · rintro ⟨h1, h2⟩; exact ⟨h1.symm, h2.symm⟩
theorem map_map' {A B C : Type} (f : A → B) (g : B → C) (r : Ans A) : (r.map f).map g = r.map (fun x => g (f x)) := by cases r <;> rfl
theorem map_id' {A : Type} (r : Ans A) : r.map (fun x => x) = r := by cases r <;> rfl

/-- How far a scan is: at place i, with the tokens ts. -/
def Far (s : List UInt8) (i : Nat) (ts : List Tok) : Prop := (i ≤ s.length ∧ scanL 0 false s = (scanL i (lastE ts) (s.drop i)).map (ts ++ ·)) ∨ (i = s.length + 1 ∧ scanL 0 false s = .ok ts)
theorem Far.start (s : List UInt8) : Far s 0 [] := .inl ⟨Nat.zero_le _, by
  rw [List.drop_zero]
  show _ = (scanL 0 false s).map fun x => x
  rw [map_id']⟩
theorem Far.open {s : List UInt8} {i : Nat} {ts : List Tok} {c : UInt8} {r : List UInt8} (h : Far s i ts) (hi : i < s.length) (hd : s.drop i = c :: r) : scanL 0 false s = (scanL i (lastE ts) (c :: r)).map (ts ++ ·) := by
  rcases h with ⟨_, h⟩ | ⟨h, _⟩
  · rw [← hd]; exact h
  · omega
theorem drop_more {s : List UInt8} {i : Nat} {c : UInt8} {r : List UInt8} (hd : s.drop i = c :: r) (k : Nat) : s.drop (i + 1 + k) = r.drop k := by
  rw [Nat.add_assoc, ← List.drop_drop, hd, Nat.add_comm, List.drop_succ_cons]
theorem Far.last {s : List UInt8} {ts : List Tok} (h : Far s s.length ts) : Far s (s.length + 1) (if lastE ts then ts ++ [⟨1, [], s.length⟩] else ts) := by
  rcases h with ⟨_, h⟩ | ⟨h, _⟩
  · refine .inr ⟨rfl, ?_⟩
    rw [h, List.drop_of_length_le (Nat.le_refl _), scanL]
    cases lastE ts
    · show Ans.ok (ts ++ []) = _
      rw [List.append_nil]; rfl
    · rfl
  · omega
theorem Far.feed {s : List UInt8} {i : Nat} {ts : List Tok} {r : List UInt8} (h : Far s i ts) (hi : i < s.length) (hd : s.drop i = 10 :: r) : Far s (i + 1) (if lastE ts then ts ++ [⟨1, [], i⟩] else ts) := by
  have h := h.open hi hd
  refine .inl ⟨by omega, ?_⟩
  rw [h, scanL, if_pos rfl, show s.drop (i + 1) = r by simpa using drop_more hd 0]
  cases hl : lastE ts with
  | false =>
    rw [if_neg (by decide), if_neg (by decide), hl]
  | true =>
    rw [if_pos rfl, if_pos rfl, lastE_snoc, map_map']
    show _ = (scanL (i + 1) false r).map _
    congr 1
    funext x
    simp
theorem Far.blank {s : List UInt8} {i : Nat} {ts : List Tok} {c : UInt8} {r : List UInt8} (h : Far s i ts) (hi : i < s.length) (hd : s.drop i = c :: r) (h10 : c ≠ 10) (hc : c = 32 ∨ c = 9) : Far s (i + 1) ts := by
  have h := h.open hi hd
  refine .inl ⟨by omega, ?_⟩
  rw [h, scanL, if_neg h10, if_pos hc, show s.drop (i + 1) = r by simpa using drop_more hd 0]
theorem Far.remark {s : List UInt8} {i : Nat} {ts : List Tok} {c : UInt8} {r : List UInt8} (h : Far s i ts) (hi : i < s.length) (hd : s.drop i = c :: r) (h10 : c ≠ 10) (hc : ¬ (c = 32 ∨ c = 9)) (h47 : c = 47 ∧ r.head? = some 47) : Far s (i + 1 + remL r) ts := by
  have h := h.open hi hd
  have hl : r.length + 1 = s.length - i := by
    have := congrArg List.length hd
    simp at this
    omega
  have hr : remL r ≤ r.length := by
    rcases index_rem r with h | h <;> omega
  refine .inl ⟨by omega, ?_⟩
  rw [h, scanL, if_neg h10, if_neg hc, if_pos h47, drop_more hd]
theorem Far.token {s : List UInt8} {i : Nat} {ts : List Tok} {c : UInt8} {r : List UInt8} (h : Far s i ts) (hi : i < s.length) (hd : s.drop i = c :: r) (h10 : c ≠ 10) (hc : ¬ (c = 32 ∨ c = 9)) (h47 : ¬ (c = 47 ∧ r.head? = some 47)) {x : Tok × Nat} (e : oneL i (c :: r) = .ok x) : Far s (i + x.2) (ts ++ [x.1]) := by
  have h := h.open hi hd
  have hl : r.length + 1 = s.length - i := by
    have := congrArg List.length hd
    simp at this
    omega
  have hx := one_len i _ x e
  simp only [List.length_cons] at hx
  refine .inl ⟨by omega, ?_⟩
  rw [h, scanL, if_neg h10, if_neg hc, if_neg h47, e]
  show Ans.map _ (Ans.map _ _) = _
  rw [map_map', lastE_snoc, show i + 1 + (x.2 - 1) = i + x.2 by omega, ← drop_more hd, show i + 1 + (x.2 - 1) = i + x.2 by omega]
  congr 1
  funext y
  simp
theorem Far.wrong {s : List UInt8} {i : Nat} {ts : List Tok} {c : UInt8} {r : List UInt8} (h : Far s i ts) (hi : i < s.length) (hd : s.drop i = c :: r) (h10 : c ≠ 10) (hc : ¬ (c = 32 ∨ c = 9)) (h47 : ¬ (c = 47 ∧ r.head? = some 47)) {b : Bad} (e : oneL i (c :: r) = .bad b) : scanL 0 false s = .bad b := by
  rw [h.open hi hd, scanL, if_neg h10, if_neg hc, if_neg h47, e]
  rfl
theorem Far.done {s : List UInt8} {i : Nat} {ts : List Tok} (h : Far s i ts) (hi : s.length < i) : scanL 0 false s = .ok ts := by
  rcases h with ⟨h, _⟩ | ⟨_, h⟩
  · omega
  · exact h

/-- What a scan hands back. -/
def ScanR (r : Ans (List Tok)) (w : World) (e : Ending) (w' : World) : Prop := Below w.heap.size w w' ∧ match r with
  | .ok ts => ∃ v, e = .returned (.tuple #[v, .nilIface]) ∧ Toks w' w.heap.size v ts
  | .bad b => ∃ g, e = .returned (.tuple #[.slice none 0 0, .iface 58 (.pointer (some ⟨g, 0, none⟩))]) ∧ WrongB w w' g b
theorem ScanR.ok {ts : List Tok} {w w' : World} {e : Ending} (hb : Below w.heap.size w w') (v : Value) (he : e = .returned (.tuple #[v, .nilIface])) (ht : Toks w' w.heap.size v ts) : ScanR (.ok ts) w e w' := ⟨hb, v, he, ht⟩
theorem ScanR.bad {b : Bad} {w w' : World} {e : Ending} (hb : Below w.heap.size w w') (g : Nat) (he : e = .returned (.tuple #[.slice none 0 0, .iface 58 (.pointer (some ⟨g, 0, none⟩))])) (hg : WrongB w w' g b) : ScanR (.bad b) w e w' := ⟨hb, g, he, hg⟩
end Go.Proofs.YtpggcmlddmckcaaDoor
