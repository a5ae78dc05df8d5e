/-
  The plain law of keys: what is held against itself tells whether a right datum is a key; equal ones are keys together, and have one hash. No program in sight. Written by an AI agent.
-/
import Derived.Test.YthdmmhiifkebeaaDoorEqLaw
import Derived.Test.YthdmmhiifkebeaaDoorSmLaw
import Derived.Test.YthdmmhiifkebeaaDoorVal15
namespace Go.Proofs.YthdmmhiifkebeaaDoor
open Go.RowKit Go.Sort

theorem head_more {h : Hd} {n : Nat} (hh : headB h n = true) : (h.kind = 3 ∨ h.f = 0) ∧ (h.kind = 5 ∨ h.kind = 6 ∨ h.kind = 7 ∨ h.kind = 9 ∨ (h.obj = 0 ∧ h.path = [])) ∧ (n = 0 ∨ h.kind = 8) := by
  simp only [headB, okB, ok2B, Bool.and_eq_true, Bool.or_eq_true, decide_eq_true_iff] at hh
  obtain ⟨⟨⟨⟨h1, hl⟩, ⟨⟨_, hf⟩, _⟩⟩, hn⟩, _⟩ := hh
  refine ⟨?_, ?_, hn⟩
  · rcases hf with h | ⟨h, _⟩
    · exact .inr h
    · exact .inl h
  by_cases h5 : h.kind = 5
  · exact .inl h5
  by_cases h6 : h.kind = 6
  · exact .inr (.inl h6)
  by_cases h7 : h.kind = 7
  · exact .inr (.inr (.inl h7))
  by_cases h9 : h.kind = 9
  · exact .inr (.inr (.inr (.inl h9)))
  refine .inr (.inr (.inr (.inr ?_)))
  unfold leadsB at hl
  by_cases hob : h.obj < 0 ∨ 2147483647 < h.obj
  · rw [if_pos hob] at hl; cases hl
  rw [if_neg hob, if_neg h5, if_neg (by omega)] at hl
  unfold plainB at hl
  rw [decide_eq_true_iff] at hl
  exact ⟨hl.1, List.eq_nil_of_length_eq_zero (by have := hl.2.2.2.2; omega)⟩
theorem feq_nan {a b : Nat} (h : feqB a b = true) : nanB a = false ∧ nanB b = false ∧ placeF a = placeF b := by
  unfold feqB at h
  rw [Bool.and_eq_true, Bool.and_eq_true, decide_eq_true_iff] at h
  exact ⟨by simpa using h.1.1, by simpa using h.1.2, h.2⟩
theorem feq_mk {a b : Nat} (h1 : nanB a = false) (h2 : nanB b = false) (h3 : placeF a = placeF b) : feqB a b = true := by
  unfold feqB; rw [h1, h2, decide_eq_true h3]; rfl
theorem feq_same {a b : Int} (a0 : 0 ≤ a) (a1 : a ≤ 18446744073709551615) (b0 : 0 ≤ b) (b1 : b ≤ 18446744073709551615) (h : feqB a.toNat b.toNat = true) : a = b ∨ (feqB a.toNat 0 = true ∧ feqB b.toNat 0 = true) := by
  obtain ⟨n1, n2, hp⟩ := feq_nan h
  by_cases hz : placeF a.toNat = 0
  · exact .inr ⟨feq_mk n1 (by decide) (by rw [hz]; decide), feq_mk n2 (by decide) (by rw [← hp, hz]; decide)⟩
  · refine .inl ?_
    unfold placeF at hp hz
    by_cases s1 : a.toNat / 9223372036854775808 % 2 = 1
    · rw [if_pos s1] at hp hz
      by_cases s2 : b.toNat / 9223372036854775808 % 2 = 1
      · rw [if_pos s2] at hp; omega
      · rw [if_neg s2] at hp; omega
    · rw [if_neg s1] at hp hz
      by_cases s2 : b.toNat / 9223372036854775808 % 2 = 1
      · rw [if_pos s2] at hp; omega
      · rw [if_neg s2] at hp; omega
theorem oneB_parts {h h' : Hd} (ho : oneB h h' = true) : h.kind = h'.kind ∧ h.type = h'.type := of_decide_eq_true ho
theorem hash1_eq {h h' : Hd} (ho : oneB h h' = true) (hs : h.s = h'.s) : hash1 h = hash1 h' := by
  unfold hash1 bytesH
  rw [(oneB_parts ho).1, (oneB_parts ho).2, hs]
theorem hash2_eq {h h' : Hd} (ho : oneB h h' = true) (hs : h.s = h'.s) (hf : h.f = h'.f) : hash2 h = hash2 h' := by
  unfold hash2; rw [hash1_eq ho hs, hf]
theorem hash3_of {h h' : Hd} (h2 : hash2 h = hash2 h') (hn : h.n = h'.n) (hob : h.obj = h'.obj) (hp : h.path = h'.path) : hash3 h = hash3 h' := by
  unfold hash3; rw [h2, hn, hob, hp]
theorem hash3_eq {h h' : Hd} {n n' : Nat} (o : h.ok) (o' : h'.ok) (h1 : headB h n = true) (h2 : headB h' n' = true) (ho : oneB h h' = true) (he : h.kind ≠ 8 → (equalH h h').1 = true) : hash3 h = hash3 h' := by
  obtain ⟨a0, a9, an, asz, _⟩ := head_facts h1
  obtain ⟨b0, b9, bn, bsz, _⟩ := head_facts h2
  obtain ⟨af, ar, _⟩ := head_more h1
  obtain ⟨bf, br, _⟩ := head_more h2
  have hk := (oneB_parts ho).1
  by_cases h8 : h.kind = 8
  · obtain ⟨x1, x2⟩ : h.obj = 0 ∧ h.path = [] := by rcases ar with h | h | h | h | h <;> first | exact h | omega
    obtain ⟨y1, y2⟩ : h'.obj = 0 ∧ h'.path = [] := by rcases br with h | h | h | h | h <;> first | exact h | omega
    exact hash3_of (hash2_eq ho (by rw [size_emp (show h.s.size = 0 by omega), size_emp (show h'.s.size = 0 by omega)]) (by omega)) (by omega) (by omega) (by rw [x2, y2])
  have he := he h8
  unfold equalH at he
  by_cases h3 : h.kind = 3
  · rw [if_pos h3] at he
    obtain ⟨x1, x2⟩ : h.obj = 0 ∧ h.path = [] := by rcases ar with h | h | h | h | h <;> first | exact h | omega
    obtain ⟨y1, y2⟩ : h'.obj = 0 ∧ h'.path = [] := by rcases br with h | h | h | h | h <;> first | exact h | omega
    have es : h.s = h'.s := by rw [size_emp (show h.s.size = 0 by omega), size_emp (show h'.s.size = 0 by omega)]
    refine hash3_of ?_ (by omega) (by omega) (by rw [x2, y2])
    rcases feq_same o.f0 o.f1 o'.f0 o'.f1 he with hf | ⟨f1, f2⟩
    · exact hash2_eq ho es hf
    · unfold hash2
      rw [f1, f2, hash1_eq ho es, if_neg (by simp), if_neg (by simp)]
  rw [if_neg h3] at he
  have ef : h.f = h'.f := by omega
  by_cases h5 : h.kind = 5 ∨ h.kind = 6 ∨ h.kind = 7
  · rw [if_pos h5] at he; cases he
  rw [if_neg h5] at he
  by_cases h9 : h.kind = 9
  · rw [if_pos h9] at he
    have he : h.obj = h'.obj ∧ h.path = h'.path := of_decide_eq_true he
    exact hash3_of (hash2_eq ho (by rw [size_emp (show h.s.size = 0 by omega), size_emp (show h'.s.size = 0 by omega)]) ef) (by omega) he.1 he.2
  rw [if_neg h9] at he
  have he : h.n = h'.n ∧ h.s = h'.s := of_decide_eq_true he
  obtain ⟨x1, x2⟩ : h.obj = 0 ∧ h.path = [] := by rcases ar with h | h | h | h | h <;> first | exact h | omega
  obtain ⟨y1, y2⟩ : h'.obj = 0 ∧ h'.path = [] := by rcases br with h | h | h | h | h <;> first | exact h | omega
  exact hash3_of (hash2_eq ho he.2 ef) he.1 (by omega) (by rw [x2, y2])
theorem eqD_parts {h h' : Hd} {k k' : Fo} (h1 : headB h k.len = true) (h2 : headB h' k'.len = true) (ht : (equalD h k h' k').1 = true) : oneB h h' = true ∧ k.len = k'.len ∧ (equalF k k').1 = true ∧ (h.kind ≠ 8 → (equalH h h').1 = true) := by
  unfold equalD at ht
  by_cases ho : oneB h h' = false
  · rw [if_pos ho] at ht; cases ht
  rw [if_neg ho] at ht
  have ho' : oneB h h' = true := by revert ho; cases oneB h h' <;> simp
  refine ⟨ho', ?_⟩
  by_cases h8 : h.kind = 8
  · rw [if_pos h8] at ht
    by_cases hl : k.len ≠ k'.len
    · rw [if_pos hl] at ht; cases ht
    · rw [if_neg hl] at ht
      exact ⟨by omega, ht, fun h => absurd h8 h⟩
  · rw [if_neg h8] at ht
    have hk := (oneB_parts ho').1
    have l1 : k.len = 0 := by have := (head_more h1).2.2; omega
    have l2 : k'.len = 0 := by have := (head_more h2).2.2; omega
    refine ⟨by omega, ?_, fun _ => ht⟩
    rw [Fo.len_eq_zero k l1]
    simp [equalF]
theorem hashF_eq : ∀ (f g : Fo), f.ok → g.ok → okF f = true → okF g = true → f.len = g.len → (equalF f g).1 = true → ∀ a, hashF f a = hashF g a
  | .nil, .nil, _, _, _, _, _, _, a => rfl
  | .nil, .cons h k r, _, _, _, _, hl, _, a => by simp [Fo.len] at hl
  | .cons h k r, .nil, _, _, _, _, hl, _, a => by simp [Fo.len] at hl
  | .cons h k r, .cons h' k' r', o, o', e, e', hl, he, a => by
    simp only [okF, Bool.and_eq_true] at e e'
    rw [equalF_cons] at he
    by_cases ht : (equalD h k h' k').1 = true
    · rw [if_pos ht] at he
      obtain ⟨p1, p2, p3, p4⟩ := eqD_parts e.1.1 e'.1.1 ht
      rw [hashF, hashF, hash3_eq o.1 o'.1 e.1.1 e'.1.1 p1 p4, hashF_eq k k' o.2.1 o'.2.1 e.1.2 e'.1.2 p2 p3]
      exact hashF_eq r r' o.2.2.1 o'.2.2.1 e.2 e'.2 (by simp [Fo.len] at hl; exact hl) he _
    · rw [if_neg ht] at he; cases he
theorem hashD_eq {h h' : Hd} {k k' : Fo} (o : h.ok) (o' : h'.ok) (ok_ : k.ok) (ok' : k'.ok) (h1 : rightB h k = true) (h2 : rightB h' k' = true) (ht : (equalD h k h' k').1 = true) : hashD h k = hashD h' k' := by
  obtain ⟨a1, a2⟩ := right_ok h1
  obtain ⟨b1, b2⟩ := right_ok h2
  obtain ⟨p1, p2, p3, p4⟩ := eqD_parts a1 b1 ht
  unfold hashD
  rw [hash3_eq o o' a1 b1 p1 p4]
  exact hashF_eq k k' ok_ ok' a2 b2 p2 p3 _
theorem tyO_none {h : Hd} {k : Fo} (h0 : h.kind = 0) : tyO h k = none := by
  unfold tyO
  rw [if_neg (by omega), if_neg (by omega), if_neg (by omega), if_neg (by omega), if_neg (by omega), if_neg (by omega), if_neg (by omega)]
theorem tyO_some {h : Hd} {k : Fo} (h0 : h.kind ≠ 0) (h1 : 0 ≤ h.kind) (h9 : h.kind ≤ 9) : ∃ t, tyO h k = some t := by
  unfold tyO
  by_cases a1 : h.kind = 1
  · rw [if_pos a1]; exact ⟨_, rfl⟩
  rw [if_neg a1]
  by_cases a2 : h.kind = 2 ∨ h.kind = 3
  · rw [if_pos a2]; exact ⟨_, rfl⟩
  rw [if_neg a2]
  by_cases a4 : h.kind = 4
  · rw [if_pos a4]; exact ⟨_, rfl⟩
  rw [if_neg a4]
  by_cases a5 : h.kind = 5
  · rw [if_pos a5]; exact ⟨_, rfl⟩
  rw [if_neg a5]
  by_cases a6 : h.kind = 6 ∨ h.kind = 7
  · rw [if_pos a6]; exact ⟨_, rfl⟩
  rw [if_neg a6]
  by_cases a9 : h.kind = 9
  · rw [if_pos a9]; exact ⟨_, rfl⟩
  rw [if_neg a9, if_pos (by omega)]
  by_cases hh : heldS h k = emp
  · rw [if_pos hh]; exact ⟨_, rfl⟩
  · rw [if_neg hh]; exact ⟨_, rfl⟩
theorem hashV_eq {h h' : Hd} {k k' : Fo} (o : h.ok) (o' : h'.ok) (ok_ : k.ok) (ok' : k'.ok) (h1 : rightB h k = true) (h2 : rightB h' k' = true) (ht : (equalD h k h' k').1 = true) : hashV h k = hashV h' k' := by
  obtain ⟨p1, _⟩ := eqD_parts (right_ok h1).1 (right_ok h2).1 ht
  have hk := (oneB_parts p1).1
  obtain ⟨a0, a9, _⟩ := head_facts (right_ok h1).1
  unfold hashV
  by_cases h0 : h.kind = 0
  · rw [tyO_none h0, tyO_none (by omega)]
  · obtain ⟨t, e⟩ := tyO_some (k := k) h0 a0 a9
    obtain ⟨t', e'⟩ := tyO_some (h := h') (k := k') (by omega) (by omega) (by omega)
    rw [e, e']
    exact hashD_eq o o' ok_ ok' h1 h2 ht
theorem held_own (h : Hd) (k : Fo) : heldS h k = if h.kind = 8 then (equalF k k).2 else (equalH h h).2 := by
  unfold heldS equalD
  rw [if_neg (by rw [oneB_refl]; simp)]
  by_cases h8 : h.kind = 8
  · rw [if_pos h8, if_pos h8, if_neg (by simp)]
  · rw [if_neg h8, if_neg h8]
theorem key_held {h : Hd} {k : Fo} (hr : rightB h k = true) : keyB h k = decide (heldS h k = emp) := by
  obtain ⟨a0, a9, _, _, ant⟩ := head_facts (right_ok hr).1
  have ho := held_own h k
  unfold keyB
  by_cases h0 : h.kind = 0
  · rw [if_neg (by omega)] at ho
    rw [tyO_none h0, ho]
    unfold equalH
    rw [if_neg (by omega), if_neg (by omega), if_neg (by omega)]
    simp
  by_cases h8 : h.kind = 8
  · unfold tyO
    rw [if_neg (by omega), if_neg (by omega), if_neg (by omega), if_neg (by omega), if_neg (by omega), if_neg (by omega), if_pos h8]
    by_cases hh : heldS h k = emp
    · rw [if_pos hh, decide_eq_true hh]; rfl
    · rw [if_neg hh, decide_eq_false hh]; rfl
  rw [if_neg h8] at ho
  rw [ho]
  unfold tyO equalH
  by_cases a1 : h.kind = 1
  · rw [if_pos a1, if_neg (by omega), if_neg (by omega), if_neg (by omega), decide_eq_true rfl]; rfl
  rw [if_neg a1]
  by_cases a3 : h.kind = 3
  · rw [if_pos (.inr a3), if_pos a3, decide_eq_true rfl]; rfl
  by_cases a2 : h.kind = 2
  · rw [if_pos (.inl a2), if_neg (by omega), if_neg (by omega), if_neg (by omega), decide_eq_true rfl]; rfl
  rw [if_neg (by omega)]
  by_cases a4 : h.kind = 4
  · rw [if_pos a4, if_neg (by omega), if_neg (by omega), if_neg (by omega), decide_eq_true rfl]; rfl
  rw [if_neg a4]
  by_cases a5 : h.kind = 5
  · rw [if_pos a5, if_neg (by omega), if_pos (by omega), decide_eq_false (named_type ant (by omega))]; rfl
  rw [if_neg a5]
  by_cases a6 : h.kind = 6 ∨ h.kind = 7
  · rw [if_pos a6, if_neg (by omega), if_pos (by omega), decide_eq_false (named_type ant (by omega))]; rfl
  rw [if_neg a6]
  have a9' : h.kind = 9 := by omega
  rw [if_pos a9', if_neg (by omega), if_neg (by omega), if_pos a9', decide_eq_true rfl]; rfl
theorem eqH_self {h h' : Hd} (ho : oneB h h' = true) (he : (equalH h h').1 = true) : equalH h' h' = (true, emp) := by
  have hk := (oneB_parts ho).1
  unfold equalH at he ⊢
  by_cases h3 : h.kind = 3
  · rw [if_pos h3] at he
    obtain ⟨_, n2, _⟩ := feq_nan he
    rw [if_pos (by omega), feq_mk n2 n2 rfl]
  rw [if_neg h3] at he
  by_cases h5 : h.kind = 5 ∨ h.kind = 6 ∨ h.kind = 7
  · rw [if_pos h5] at he; cases he
  rw [if_neg (by omega), if_neg (by omega)]
  by_cases h9 : h.kind = 9
  · rw [if_pos (by omega)]; simp
  · rw [if_neg (by omega)]; simp
theorem eqF_self : ∀ (f g : Fo), f.len = g.len → (equalF f g).1 = true → equalF g g = (true, emp)
  | .nil, .nil, _, _ => by simp [equalF]
  | .nil, .cons h k r, hl, _ => by simp [Fo.len] at hl
  | .cons h k r, .nil, hl, _ => by simp [Fo.len] at hl
  | .cons h k r, .cons h' k' r', hl, he => by
    rw [equalF_cons] at he
    by_cases ht : (equalD h k h' k').1 = true
    · rw [if_pos ht] at he
      have hd : equalD h' k' h' k' = (true, emp) := by
        unfold equalD at ht ⊢
        by_cases ho : oneB h h' = false
        · rw [if_pos ho] at ht; cases ht
        rw [if_neg ho] at ht
        have ho' : oneB h h' = true := by revert ho; cases oneB h h' <;> simp
        have hk := (oneB_parts ho').1
        rw [if_neg (by rw [oneB_refl]; simp)]
        by_cases h8 : h.kind = 8
        · rw [if_pos h8] at ht
          by_cases hll : k.len ≠ k'.len
          · rw [if_pos hll] at ht; cases ht
          · rw [if_neg hll] at ht
            rw [if_pos (by omega), if_neg (by simp)]
            exact eqF_self k k' (by omega) ht
        · rw [if_neg h8] at ht
          rw [if_neg (by omega)]
          exact eqH_self ho' ht
      rw [equalF_cons, hd, if_pos rfl]
      exact eqF_self r r' (by simp [Fo.len] at hl; exact hl) he
    · rw [if_neg ht] at he; cases he
theorem eqD_self {h h' : Hd} {k k' : Fo} (ht : (equalD h k h' k').1 = true) : equalD h' k' h' k' = (true, emp) := by
  unfold equalD at ht ⊢
  by_cases ho : oneB h h' = false
  · rw [if_pos ho] at ht; cases ht
  rw [if_neg ho] at ht
  have ho' : oneB h h' = true := by revert ho; cases oneB h h' <;> simp
  have hk := (oneB_parts ho').1
  rw [if_neg (by rw [oneB_refl]; simp)]
  by_cases h8 : h.kind = 8
  · rw [if_pos h8] at ht
    by_cases hll : k.len ≠ k'.len
    · rw [if_pos hll] at ht; cases ht
    · rw [if_neg hll] at ht
      rw [if_pos (by omega), if_neg (by simp)]
      exact eqF_self k k' (by omega) ht
  · rw [if_neg h8] at ht
    rw [if_neg (by omega)]
    exact eqH_self ho' ht
theorem key_equal {h h' : Hd} {k k' : Fo} (h2 : rightB h' k' = true) (ht : (equalD h k h' k').1 = true) : keyB h' k' = true := by
  rw [key_held h2, decide_eq_true_iff]
  unfold heldS
  rw [eqD_self ht]

/-- What the program's Key says. -/
def keyEr (h : Hd) (k : Fo) : Er := if rightB h k = true then (if keyB h k = true then .ok else .fault keyW (heldS h k)) else .wrong
theorem key_err {h : Hd} {k : Fo} {w w' : World} {v : Value} (hv : KeyV h k w w' v) : ErrAt w w' v (keyEr h k) := by
  unfold KeyV at hv
  unfold keyEr
  by_cases hr : rightB h k = true
  · rw [if_pos hr] at hv ⊢
    by_cases hk : keyB h k = true
    · rw [if_pos hk] at hv ⊢; exact hv
    · rw [if_neg hk] at hv ⊢; exact hv
  · rw [if_neg hr] at hv ⊢; exact hv
/-- The number that the program's Hash hands back. -/
def keyN (h : Hd) (k : Fo) : Int := if (rightB h k && keyB h k) = true then hashV h k else 0
theorem key_told {h : Hd} {k : Fo} (hr : rightB h k = true) : ∃ word more : ByteArray, (match (reqD h k h k).2 with | none => (.agg #[.string ⟨#[]⟩, .string ⟨#[]⟩] : Value) | some m => .agg #[.string ⟨#[107, 101, 121]⟩, .string m]) = .agg #[.string word, .string more] ∧
    (keyEr h k).told word more = true ∧ ((keyB h k = true ∧ word = ⟨#[]⟩) ∨ (keyB h k = false ∧ word = ⟨#[107, 101, 121]⟩ ∧ keyN h k = 0)) := by
  rw [eq_law hr hr]
  have hkh := key_held hr
  unfold keyEr keyN conv
  rw [if_pos hr]
  by_cases he : heldS h k = emp
  · rw [decide_eq_true he] at hkh
    have he' : (equalD h k h k).2 = emp := he
    refine ⟨⟨#[]⟩, ⟨#[]⟩, ?_, ?_, .inl ⟨hkh, rfl⟩⟩
    · simp only [if_pos he']
    · rw [if_pos hkh]; rfl
  · rw [decide_eq_false he] at hkh
    have he' : ¬ (equalD h k h k).2 = emp := he
    refine ⟨⟨#[107, 101, 121]⟩, heldS h k, ?_, ?_, .inr ⟨hkh, rfl, ?_⟩⟩
    · simp only [if_neg he']; rfl
    · rw [if_neg (by rw [hkh]; simp)]
      have hc : keyW ≠ emp := by decide
      show (decide ((⟨#[107, 101, 121]⟩ : ByteArray) ≠ emp) && decide (keyW = ⟨#[107, 101, 121]⟩ ∧ heldS h k = heldS h k)) = true
      rw [decide_eq_true (show (⟨#[107, 101, 121]⟩ : ByteArray) ≠ emp from hc), decide_eq_true ⟨rfl, rfl⟩]; rfl
    · rw [hkh, Bool.and_false, if_neg (by simp)]
end Go.Proofs.YthdmmhiifkebeaaDoor
