/-
  The plain laws of a text's literal: what is written as a literal is read as it was; its bytes are 32 to 126; it is one token. Written by an AI agent.
-/
import Derived.Test.YtpggcmlddmckcaaDoorLx
namespace Go.Proofs.YtpggcmlddmckcaaDoor
set_option maxRecDepth 100000

theorem hex_back : ∀ c : UInt8, 0 ≤ hexV (hexD (c.toNat / 16)) ∧ 0 ≤ hexV (hexD (c.toNat % 16)) ∧ UInt8.ofNat (16 * hexV (hexD (c.toNat / 16)) + hexV (hexD (c.toNat % 16))).toNat = c := by
  apply byte_all
  decide +kernel
theorem quote_bytes : ∀ c : UInt8, ∀ x ∈ quoteC c, 32 ≤ x.toNat ∧ x.toNat ≤ 126 := by
  apply byte_all
  decide +kernel
theorem quote_range (s : List UInt8) : ∀ x ∈ quote s, 32 ≤ x.toNat ∧ x.toNat ≤ 126 := by
  intro x hx
  unfold quote at hx
  simp only [List.cons_append, List.mem_cons, List.mem_append, List.mem_flatMap, List.not_mem_nil, or_false] at hx
  rcases hx with rfl | ⟨c, _, h⟩ | rfl
  · decide
  · exact quote_bytes c x h
  · decide
theorem lit_quoteC (at0 i : Nat) (out : List UInt8) (c : UInt8) (r : List UInt8) : litL at0 i out (quoteC c ++ r) = litL at0 (i + (quoteC c).length) (out ++ [c]) r := by
  unfold quoteC
  by_cases h1 : c = 34 ∨ c = 92
  · rw [if_pos h1]
    rcases h1 with rfl | rfl <;>
    · show litL at0 i out (92 :: _ :: r) = _
      rw [litL, if_neg (by decide), if_neg (by decide), if_pos rfl]
      simp [escL]
  rw [if_neg h1]
  by_cases h2 : c = 10
  · subst h2
    show litL at0 i out (92 :: 110 :: r) = _
    rw [litL, if_neg (by decide), if_neg (by decide), if_pos rfl]
    simp [escL]
  rw [if_neg h2]
  by_cases h3 : c = 9
  · subst h3
    show litL at0 i out (92 :: 116 :: r) = _
    rw [litL, if_neg (by decide), if_neg (by decide), if_pos rfl]
    simp [escL]
  rw [if_neg h3]
  by_cases h4 : c.toNat < 32 ∨ 126 < c.toNat
  · rw [if_pos h4]
    show litL at0 i out (92 :: 120 :: hexD (c.toNat / 16) :: hexD (c.toNat % 16) :: r) = _
    obtain ⟨a, b, e⟩ := hex_back c
    have he : escL (120 :: hexD (c.toNat / 16) :: hexD (c.toNat % 16) :: r) = (c, 3) := by
      simp [escL, a, b, e]
    rw [litL, if_neg (by decide), if_neg (by decide), if_pos rfl, he]
    simp
  · rw [if_neg h4]
    have h5 : c ≠ 34 ∧ c ≠ 92 := ⟨fun h => h1 (.inl h), fun h => h1 (.inr h)⟩
    show litL at0 i out (c :: r) = _
    rw [litL, if_neg h5.1, if_neg h2, if_neg h5.2]
    simp
theorem lit_quote (at0 : Nat) : ∀ (s : List UInt8) (i : Nat) (out b : List UInt8), litL at0 i out (s.flatMap quoteC ++ 34 :: b) = .ok (out ++ s, i + (s.flatMap quoteC).length + 1)
  | [], i, out, b => by
    rw [List.flatMap_nil, List.nil_append, litL, if_pos rfl]
    simp
  | c :: s, i, out, b => by
    rw [List.flatMap_cons, List.append_assoc, lit_quoteC, lit_quote at0 s]
    simp only [List.append_assoc, List.singleton_append, List.length_append, Ans.ok.injEq, Prod.mk.injEq, true_and]
    omega
theorem quote_length (s : List UInt8) : (quote s).length = (s.flatMap quoteC).length + 2 := by simp [quote]
/-- What was written as a literal is read as it was; what stands behind it is told. -/
theorem unquote_quote (s b : List UInt8) (hs : s.length ≤ 65536) : unquote (quote s ++ b) = if b = [] then .ok s else .bad ⟨11, (quote s).length⟩ := by
  have e : quote s ++ b = 34 :: (s.flatMap quoteC ++ 34 :: b) := by simp [quote]
  rw [e, unquote, if_pos rfl, lit_quote, quote_length]
  cases b with
  | nil =>
    simp only [List.nil_append]
    rw [if_neg (by simp; omega), if_neg (by omega)]
    simp
  | cons x b =>
    simp only [List.nil_append]
    rw [if_pos (by simp; omega)]
    simp
    omega
/-- A literal is one token. -/
theorem scan_quote (s : List UInt8) (hs : (quote s).length ≤ 60000) : scan (quote s) = .ok [⟨6, s, 0⟩, ⟨1, [], (quote s).length⟩] := by
  have hl := quote_length s
  unfold scan
  rw [if_neg (by omega)]
  have e : quote s = 34 :: (s.flatMap quoteC ++ 34 :: []) := by simp [quote]
  rw [e, scanL, if_neg (by decide), if_neg (by decide), if_neg (fun h => absurd h.1 (by decide)), oneL, if_neg (by decide), if_pos rfl, lit_quote]
  simp only [Ans.map, List.nil_append]
  have hd : (s.flatMap quoteC ++ [34]).drop (0 + 1 + (s.flatMap quoteC).length + 1 - 0 - 1) = [] := List.drop_eq_nil_of_le (by simp; omega)
  rw [hd, scanL]
  simp [endT]
  omega
end Go.Proofs.YtpggcmlddmckcaaDoor
