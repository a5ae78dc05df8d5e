/-
  The plain law of LexBlanks: blanks, tabs and remarks put in ahead of tokens: the same tokens, further on. Written by an AI agent.
-/
import Derived.Test.YtpggcmlddmckcaaDoorLp
namespace Go.Proofs.YtpggcmlddmckcaaDoor
set_option maxRecDepth 100000

/-- Where the tokens of a scan stand: from its start on, rising. -/
def Ord (at0 : Nat) (l : List Tok) : Prop := (∀ t ∈ l, at0 ≤ t.place) ∧ l.Pairwise (fun a b => a.place < b.place)
theorem Ord.more {a b : Nat} {l : List Tok} (h : Ord b l) (hab : a ≤ b) : Ord a l := ⟨fun t ht => Nat.le_trans hab (h.1 t ht), h.2⟩
theorem Ord.cons {a b : Nat} {l : List Tok} (h : Ord b l) (hab : a < b) (t : Tok) (ht : t.place = a) : Ord a (t :: l) :=
  ⟨fun u hu => by
    rcases List.mem_cons.1 hu with rfl | hu
    · omega
    · have := h.1 u hu; omega, List.pairwise_cons.2 ⟨fun u hu => by have := h.1 u hu; omega, h.2⟩⟩
def OrdA (at0 : Nat) : Ans (List Tok) → Prop
  | .ok l => Ord at0 l
  | .bad _ => True
theorem scan_ord : ∀ (n : Nat) (l : List UInt8) (at0 : Nat) (e : Bool), l.length ≤ n → OrdA at0 (scanL at0 e l)
  | _, [], at0, e, _ => by
    rw [scanL]
    cases e <;> simp [OrdA, Ord]
  | 0, _ :: _, _, _, h => by simp at h
  | n + 1, c :: r, at0, e, h => by
    have hr : r.length ≤ n := by simpa using h
    have hmap : ∀ (k : Nat) (a : Ans (List Tok)) (t : Tok), OrdA (at0 + 1 + k) a → t.place = at0 → OrdA at0 (a.map (t :: ·)) := fun k a t ha ht => by
      cases a with
      | bad b => trivial
      | ok l => exact Ord.cons ha (by omega) t ht
    have hmore : ∀ (k : Nat) (a : Ans (List Tok)), OrdA (at0 + 1 + k) a → OrdA at0 a := fun k a ha => by
      cases a with
      | bad b => trivial
      | ok l => exact Ord.more ha (by omega)
    rw [scanL]
    by_cases h1 : c = 10
    · rw [if_pos h1]
      cases e with
      | true => exact hmap 0 _ _ (scan_ord n r _ _ hr) rfl
      | false => exact hmore 0 _ (scan_ord n r _ _ hr)
    rw [if_neg h1]
    by_cases h2 : c = 32 ∨ c = 9
    · rw [if_pos h2]
      exact hmore 0 _ (scan_ord n r _ _ hr)
    rw [if_neg h2]
    by_cases h3 : c = 47 ∧ r.head? = some 47
    · rw [if_pos h3]
      exact hmore _ _ (scan_ord n _ _ _ (by simp; omega))
    rw [if_neg h3]
    cases h4 : oneL at0 (c :: r) with
    | bad b => trivial
    | ok x => exact hmap _ _ _ (scan_ord n _ _ _ (by simp; omega)) (one_place at0 _ x h4)

/-- What is put in is skipped: ahead of a line feed. -/
theorem skip_feed {x : List UInt8} {line : Bool} (hx : Ins line x) (m : List UInt8) (at0 : Nat) (e : Bool) : scanL at0 e (x ++ 10 :: m) = scanL (at0 + x.length) e (10 :: m) := by
  rcases hx with rfl | rfl | rfl | ⟨_, rfl | rfl⟩
  · rfl
  · show scanL at0 e (32 :: 10 :: m) = _
    rw [scanL, if_neg (by decide), if_pos (by decide)]
    rfl
  · show scanL at0 e (9 :: 32 :: 10 :: m) = _
    rw [scanL, if_neg (by decide), if_pos (by decide), scanL, if_neg (by decide), if_pos (by decide)]
    rfl
  · show scanL at0 e (32 :: 47 :: 47 :: 32 :: 34 :: 120 :: 10 :: m) = _
    rw [scanL, if_neg (by decide), if_pos (by decide), scanL, if_neg (by decide), if_neg (by decide), if_pos (by simp)]
    have hr : remL (47 :: 32 :: 34 :: 120 :: 10 :: m) = 4 := by simp [remL]
    rw [hr]
    rfl
  · show scanL at0 e (47 :: 47 :: 47 :: 10 :: m) = _
    rw [scanL, if_neg (by decide), if_neg (by decide), if_pos (by simp)]
    have hr : remL (47 :: 47 :: 10 :: m) = 2 := by simp [remL]
    rw [hr]
    rfl
theorem skip_end {x : List UInt8} {line : Bool} (hx : Ins line x) (at0 : Nat) (e : Bool) : scanL at0 e x = scanL (at0 + x.length) e [] := by
  rcases hx with rfl | rfl | rfl | ⟨_, rfl | rfl⟩
  · rfl
  · have h1 : scanL at0 e [32] = scanL (at0 + 1) e [] := by
      conv => lhs; rw [scanL]
      rw [if_neg (by decide), if_pos (by decide)]
    exact h1
  · have h1 : scanL at0 e [9, 32] = scanL (at0 + 1) e [32] := by
      conv => lhs; rw [scanL]
      rw [if_neg (by decide), if_pos (by decide)]
    have h2 : scanL (at0 + 1) e [32] = scanL (at0 + 1 + 1) e [] := by
      conv => lhs; rw [scanL]
      rw [if_neg (by decide), if_pos (by decide)]
    exact h1.trans h2
  · have h1 : scanL at0 e [32, 47, 47, 32, 34, 120] = scanL (at0 + 1) e [47, 47, 32, 34, 120] := by
      conv => lhs; rw [scanL]
      rw [if_neg (by decide), if_pos (by decide)]
    have h2 : scanL (at0 + 1) e [47, 47, 32, 34, 120] = scanL (at0 + 1 + 1 + 4) e [] := by
      conv => lhs; rw [scanL]
      rw [if_neg (by decide), if_neg (by decide), if_pos (by simp)]
      rfl
    exact h1.trans h2
  · have h1 : scanL at0 e [47, 47, 47] = scanL (at0 + 1 + 2) e [] := by
      conv => lhs; rw [scanL]
      rw [if_neg (by decide), if_neg (by decide), if_pos (by simp)]
      rfl
    exact h1
theorem skip_blank {x : List UInt8} (hx : Ins false x) (m : List UInt8) (at0 : Nat) (e : Bool) : scanL at0 e (x ++ m) = scanL (at0 + x.length) e m := by
  rcases hx with rfl | rfl | rfl | ⟨h, _⟩
  · rfl
  · show scanL at0 e (32 :: m) = _
    rw [scanL, if_neg (by decide), if_pos (by decide)]
    rfl
  · show scanL at0 e (9 :: 32 :: m) = _
    rw [scanL, if_neg (by decide), if_pos (by decide), scanL, if_neg (by decide), if_pos (by decide)]
    rfl
  · cases h
theorem ins_no10 {x : List UInt8} {line : Bool} (hx : Ins line x) : ∀ c ∈ x, c ≠ 10 := by
  rcases hx with rfl | rfl | rfl | ⟨_, rfl | rfl⟩ <;> decide
theorem rem_app {a b : List UInt8} (h : ∀ c ∈ a, c ≠ 10) : remL (a ++ b) = a.length + remL b := by
  induction a with
  | nil => simp
  | cons c a ih =>
    have hc : c ≠ 10 := h c List.mem_cons_self
    have := ih fun d hd => h d (List.mem_cons_of_mem _ hd)
    unfold remL at this ⊢
    rw [List.cons_append, List.takeWhile_cons_of_pos (by simpa using hc), List.length_cons, this, List.length_cons]
    omega

section
variable (s : List UInt8) (ch : Nat → Bool → List UInt8)
theorem mix_slide (i p at1 k : Nat) (hk : p + k ≤ s.length) : ∀ l : List Tok, (∀ t ∈ l.head?, p + k ≤ t.place ∧ t.place ≤ s.length) →
    mixL s ch i p at1 l = ((s.drop p).take k ++ (mixL s ch i (p + k) (at1 + k) l).1, (mixL s ch i (p + k) (at1 + k) l).2)
  | [], _ => by
    rw [mixL, mixL, ← List.drop_drop, List.take_append_drop]
  | t :: l, h => by
    obtain ⟨h1, h2⟩ := h t rfl
    have e : (s.drop p).take (t.place - p) = (s.drop p).take k ++ (s.drop (p + k)).take (t.place - (p + k)) := by
      rw [show t.place - p = k + (t.place - (p + k)) by omega, List.take_add, List.drop_drop]
    have l1 : ((s.drop p).take (t.place - p)).length = t.place - p := by rw [List.length_take, List.length_drop]; omega
    have l2 : ((s.drop (p + k)).take (t.place - (p + k))).length = t.place - (p + k) := by rw [List.length_take, List.length_drop]; omega
    have e1 : at1 + k + (t.place - (p + k)) = at1 + (t.place - p) := by omega
    rw [mixL, mixL, l1, l2, e1, e]
    simp only [List.append_assoc]
variable {s ch}
theorem agree_list (hch : ∀ i b, Ins b (ch i b)) : ∀ (l : List Tok) (i p at1 : Nat) (e : Bool), Ord p l → (∀ t ∈ l, t.place ≤ s.length) → (∀ t ∈ l.head?, t.place = p → lineB s t = true → e = true) → Agree e (s.drop p) (mixL s ch i p at1 l).1
  | [], i, p, at1, e, _, _, _ => ⟨s.drop p, [], [], by simp, by simp [mixL], .inl ⟨rfl, rfl⟩⟩
  | t :: l, i, p, at1, e, ho, hp, he => by
    have h1 := ho.1 t List.mem_cons_self
    have h2 := hp t List.mem_cons_self
    have hpw := List.pairwise_cons.1 ho.2
    have hsp : s.drop p = (s.drop p).take (t.place - p) ++ s.drop t.place := by
      have := (List.take_append_drop (t.place - p) (s.drop p)).symm
      rw [List.drop_drop, show p + (t.place - p) = t.place by omega] at this
      exact this
    rw [mixL]
    simp only
    by_cases hz : ch i (lineB s t) = []
    · rw [hz, List.nil_append]
      have ih := agree_list hch l (i + 1) t.place (at1 + ((s.drop p).take (t.place - p)).length + ([] : List UInt8).length) false ⟨fun u hu => Nat.le_of_lt (hpw.1 u hu), hpw.2⟩ (fun u hu => hp u (List.mem_cons_of_mem _ hu)) (fun u hu e1 _ => by
        have := hpw.1 u (List.mem_of_mem_head? hu)
        omega)
      obtain ⟨q, u, v, g1, g2, g3⟩ := ih
      refine ⟨(s.drop p).take (t.place - p) ++ q, u, v, ?_, ?_, ?_⟩
      · rw [List.append_assoc, ← g1]; exact hsp
      · rw [List.append_assoc, ← g2]
      · rcases g3 with g3 | ⟨c, v', g4, g5⟩
        · exact .inl g3
        · refine .inr ⟨c, v', g4, ?_⟩
          rcases g5 with g5 | g5 | ⟨g5, g6⟩
          · exact .inl g5
          · exact .inr (.inl g5)
          · refine .inr (.inr ⟨g5, fun hq => ?_⟩)
            have := g6 (List.append_eq_nil_iff.1 hq).2
            cases this
    · refine ⟨(s.drop p).take (t.place - p), s.drop t.place, _, hsp, rfl, .inr ?_⟩
      have hq : (s.drop p).take (t.place - p) = [] → lineB s t = true → e = true := fun hq hb => by
        refine he t rfl ?_ hb
        have := congrArg List.length hq
        rw [List.length_take, List.length_drop, List.length_nil] at this
        omega
      generalize (mixL s ch (i + 1) t.place _ l).1 = M
      rcases hch i (lineB s t) with g | g | g | ⟨hb, g | g⟩
      · exact absurd g hz
      · rw [g]; exact ⟨32, M, rfl, .inl rfl⟩
      · rw [g]; exact ⟨9, _, rfl, .inr (.inl rfl)⟩
      · rw [g]; exact ⟨32, _, rfl, .inl rfl⟩
      · rw [g]; exact ⟨47, _, rfl, .inr (.inr ⟨rfl, fun hq' => hq hq' hb⟩)⟩
end
/-- A token at another place. -/
theorem one_move (at0 at1 : Nat) (l : List UInt8) (x : Tok × Nat) (e : oneL at0 l = .ok x) : oneL at1 l = .ok (⟨x.1.kind, x.1.text, at1⟩, x.2) := by
  have s0 := one_shift at0 0 l
  have s1 := one_shift at1 0 l
  rw [Nat.zero_add] at s0 s1
  rw [e] at s0
  rw [s1]
  cases h : oneL 0 l with
  | bad b => rw [h] at s0; cases s0
  | ok y =>
    have hy := one_place 0 l y h
    rw [h] at s0
    injection s0 with s0
    subst s0
    show Ans.ok (shT at1 y.1, y.2) = .ok (⟨y.1.kind, y.1.text, at1⟩, y.2)
    unfold shT
    rw [hy, Nat.zero_add]
theorem drop_of_eq {s : List UInt8} {p : Nat} {c : UInt8} {r : List UInt8} (h : s.drop p = c :: r) : p < s.length ∧ s[p]? = some c ∧ ∀ k, s.drop (p + 1 + k) = r.drop k := by
  have hp : p < s.length := by
    have := congrArg List.length h
    rw [List.length_drop, List.length_cons] at this
    omega
  have h2 := List.drop_eq_getElem_cons hp
  rw [h] at h2
  injection h2 with h3 h4
  refine ⟨hp, by rw [List.getElem?_eq_getElem hp, ← h3], fun k => ?_⟩
  rw [← List.drop_drop, ← h4]
/-- A line's end ahead, at once: then it is an end that is wanted. -/
theorem scan_first {s : List UInt8} {p : Nat} {e : Bool} {rest : List UInt8} {l : List Tok} (hr : s.drop p = rest) (h : scanL p e rest = .ok l) : ∀ t ∈ l.head?, t.place = p → lineB s t = true → e = true := by
  intro t ht htp hl
  cases e with
  | true => rfl
  | false =>
    exfalso
    cases rest with
    | nil =>
      rw [scanL] at h
      injection h with h
      subst h
      cases ht
    | cons c r =>
      obtain ⟨hlt, hc, _⟩ := drop_of_eq hr
      unfold lineB at hl
      rw [htp, hc] at hl
      simp only [Bool.and_eq_true, Bool.or_eq_true, decide_eq_true_iff, beq_iff_eq, Option.some.injEq] at hl
      have h10 : c = 10 := by
        rcases hl.2 with h | h
        · omega
        · exact h
      rw [scanL, if_pos h10] at h
      have ho := scan_ord r.length r (p + 1) false (Nat.le_refl _)
      rw [if_neg (by decide)] at h
      rw [h] at ho
      have := ho.1 t (List.mem_of_mem_head? ht)
      omega
theorem slash_one {p : Nat} {r : List UInt8} {x : Tok × Nat} (h : oneL p (47 :: r) = .ok x) (hn : x.2 = 1) : endT x.1 = false := by
  rw [oneL, if_neg (by decide), if_neg (by decide), if_neg (by decide), if_neg (by decide)] at h
  cases hf : signsL.find? (fun y => y.isPrefixOf (47 :: r)) with
  | none => rw [hf] at h; cases h
  | some y =>
    rw [hf] at h
    injection h with h
    subst h
    have hp := List.find?_some hf
    simp only at hn hp
    cases y with
    | nil => simp at hn
    | cons a y =>
      have : y = [] := by
        cases y with
        | nil => rfl
        | cons b y => simp at hn
      subst this
      rw [List.isPrefixOf] at hp
      simp only [Bool.and_eq_true, beq_iff_eq] at hp
      rw [hp.1]
      rfl
theorem mix_main {s : List UInt8} {ch : Nat → Bool → List UInt8} (hch : ∀ i b, Ins b (ch i b)) : ∀ (n : Nat) (rest : List UInt8) (p at1 i : Nat) (e : Bool) (l : List Tok), rest.length ≤ n → s.drop p = rest → p ≤ s.length → scanL p e rest = .ok l →
    scanL at1 e (mixL s ch i p at1 l).1 = .ok (mixL s ch i p at1 l).2
  | _, [], p, at1, i, e, l, _, hd, hp, h => by
    have hpe : p = s.length := by
      have := congrArg List.length hd
      rw [List.length_drop, List.length_nil] at this
      omega
    rw [scanL] at h
    injection h with h
    subst h
    cases e with
    | false => rw [if_neg (by decide), mixL, hd, scanL]; rfl
    | true =>
      rw [if_pos rfl, mixL, mixL]
      simp only [hd, Nat.sub_self, List.take_zero, List.nil_append, List.append_nil, List.length_nil, Nat.add_zero]
      rw [skip_end (hch _ _), scanL, if_pos rfl]
  | 0, _ :: _, _, _, _, _, _, h, _, _, _ => by simp at h
  | n + 1, c :: r, p, at1, i, e, l, hn, hd, hp, h => by
    have hr : r.length ≤ n := by simpa using hn
    obtain ⟨hlt, hc, hdk⟩ := drop_of_eq hd
    have hlen : r.length + (p + 1) = s.length := by
      have := congrArg List.length hd
      rw [List.length_drop, List.length_cons] at this
      omega
    have hord := scan_ord _ (c :: r) p e (Nat.le_refl _)
    have hpl := scan_places _ (c :: r) p e (Nat.le_refl _)
    rw [h] at hord hpl
    have hplace : ∀ t ∈ l, t.place ≤ s.length := fun t ht => by
      have := hpl.2 t ht
      simp only [List.length_cons] at this
      omega
    have h0 := h
    rw [scanL] at h
    by_cases h1 : c = 10
    · rw [if_pos h1] at h
      cases e with
      | true =>
        rw [if_pos rfl] at h
        cases hs : scanL (p + 1) false r with
        | bad b => rw [hs] at h; cases h
        | ok l' =>
          rw [hs] at h
          injection h with h
          subst h
          have ho' := scan_ord _ r (p + 1) false (Nat.le_refl _)
          rw [hs] at ho'
          have ih := mix_main hch n r (p + 1) (at1 + (ch i (lineB s ⟨1, [], p⟩)).length + 1) (i + 1) false l' hr (hdk 0) (by omega) hs
          have hsl := mix_slide s ch (i + 1) p (at1 + (ch i (lineB s ⟨1, [], p⟩)).length) 1 (by omega) l' (fun t ht => ⟨ho'.1 t (List.mem_of_mem_head? ht), hplace t (List.mem_cons_of_mem _ (List.mem_of_mem_head? ht))⟩)
          have hone : (s.drop p).take 1 = [10] := by rw [hd, h1]; rfl
          rw [mixL]
          simp only [Nat.sub_self, List.take_zero, List.nil_append, List.length_nil, Nat.add_zero]
          rw [hsl, hone]
          simp only [List.cons_append, List.nil_append]
          rw [skip_feed (hch _ _), scanL, if_pos rfl, if_pos rfl, ih]
          rfl
      | false =>
        rw [if_neg (by decide)] at h
        have ho' := scan_ord _ r (p + 1) false (Nat.le_refl _)
        rw [h] at ho'
        have ih := mix_main hch n r (p + 1) (at1 + 1) i false l hr (hdk 0) (by omega) h
        rw [mix_slide s ch i p at1 1 (by omega) l (fun t ht => ⟨ho'.1 t (List.mem_of_mem_head? ht), hplace t (List.mem_of_mem_head? ht)⟩), hd, h1]
        show scanL at1 false (10 :: _) = _
        rw [scanL, if_pos rfl, if_neg (by decide)]
        exact ih
    rw [if_neg h1] at h
    by_cases h2 : c = 32 ∨ c = 9
    · rw [if_pos h2] at h
      have ho' := scan_ord _ r (p + 1) e (Nat.le_refl _)
      rw [h] at ho'
      have ih := mix_main hch n r (p + 1) (at1 + 1) i e l hr (hdk 0) (by omega) h
      rw [mix_slide s ch i p at1 1 (by omega) l (fun t ht => ⟨ho'.1 t (List.mem_of_mem_head? ht), hplace t (List.mem_of_mem_head? ht)⟩), hd]
      show scanL at1 e (c :: _) = _
      rw [scanL, if_neg h1, if_pos h2]
      exact ih
    rw [if_neg h2] at h
    by_cases h3 : c = 47 ∧ r.head? = some 47
    · rw [if_pos h3] at h
      have hle : remL r ≤ r.length := (List.takeWhile_sublist _).length_le
      have ho' := scan_ord _ (r.drop (remL r)) (p + 1 + remL r) e (Nat.le_refl _)
      rw [h] at ho'
      have hd' : s.drop (p + 1 + remL r) = r.drop (remL r) := hdk _
      have ih := mix_main hch n (r.drop (remL r)) (p + 1 + remL r) (at1 + (1 + remL r)) i e l (by simp; omega) hd' (by omega) h
      have hsl := mix_slide s ch i p at1 (1 + remL r) (by omega) l (fun t ht => ⟨by have := ho'.1 t (List.mem_of_mem_head? ht); omega, hplace t (List.mem_of_mem_head? ht)⟩)
      rw [show p + (1 + remL r) = p + 1 + remL r by omega] at hsl
      -- what stands behind the remark
      have hshape : ∃ x line, Ins line x ∧ ((mixL s ch i (p + 1 + remL r) (at1 + (1 + remL r)) l).1 = x ∨ ∃ m, (mixL s ch i (p + 1 + remL r) (at1 + (1 + remL r)) l).1 = x ++ 10 :: m) := by
        rcases drop_rem r with g | g
        · rw [g, scanL] at h
          injection h with h
          subst h
          rw [g] at hd'
          cases e with
          | false => exact ⟨[], false, .inl rfl, .inl (by rw [if_neg (by decide), mixL, hd'])⟩
          | true =>
            refine ⟨_, _, hch i (lineB s ⟨1, [], p + 1 + remL r⟩), .inl ?_⟩
            rw [if_pos rfl, mixL, mixL]
            simp [hd']
        · obtain ⟨r', hr'⟩ : ∃ r', r.drop (remL r) = 10 :: r' := by
            cases hx : r.drop (remL r) with
            | nil => rw [hx] at g; cases g
            | cons a r' => rw [hx] at g; injection g with g; exact ⟨r', by rw [g]⟩
          rw [hr'] at h hd'
          rw [scanL, if_pos rfl] at h
          obtain ⟨hlt', _, hdk'⟩ := drop_of_eq hd'
          cases e with
          | true =>
            rw [if_pos rfl] at h
            cases hs : scanL (p + 1 + remL r + 1) false r' with
            | bad b => rw [hs] at h; cases h
            | ok l' =>
              rw [hs] at h
              injection h with h
              subst h
              have ho2 := scan_ord _ r' (p + 1 + remL r + 1) false (Nat.le_refl _)
              rw [hs] at ho2
              refine ⟨_, _, hch i (lineB s ⟨1, [], p + 1 + remL r⟩), .inr ⟨(mixL s ch (i + 1) (p + 1 + remL r + 1) (at1 + (1 + remL r) + (ch i (lineB s ⟨1, [], p + 1 + remL r⟩)).length + 1) l').1, ?_⟩⟩
              rw [mixL]
              simp only [Nat.sub_self, List.take_zero, List.nil_append, List.length_nil, Nat.add_zero]
              rw [mix_slide s ch (i + 1) (p + 1 + remL r) _ 1 (by omega) l' (fun t ht => ⟨ho2.1 t (List.mem_of_mem_head? ht), hplace t (List.mem_cons_of_mem _ (List.mem_of_mem_head? ht))⟩), hd']
              rfl
          | false =>
            rw [if_neg (by decide)] at h
            have ho2 := scan_ord _ r' (p + 1 + remL r + 1) false (Nat.le_refl _)
            rw [h] at ho2
            refine ⟨[], false, .inl rfl, .inr ⟨(mixL s ch i (p + 1 + remL r + 1) (at1 + (1 + remL r) + 1) l).1, ?_⟩⟩
            rw [mix_slide s ch i (p + 1 + remL r) _ 1 (by omega) l (fun t ht => ⟨ho2.1 t (List.mem_of_mem_head? ht), hplace t (List.mem_of_mem_head? ht)⟩), hd']
            rfl
      have hskip : ∀ a : Nat, scanL (a + remL (mixL s ch i (p + 1 + remL r) (at1 + (1 + remL r)) l).1) e ((mixL s ch i (p + 1 + remL r) (at1 + (1 + remL r)) l).1.drop (remL (mixL s ch i (p + 1 + remL r) (at1 + (1 + remL r)) l).1)) = scanL a e (mixL s ch i (p + 1 + remL r) (at1 + (1 + remL r)) l).1 := fun a => by
        obtain ⟨x, line, hx, g | ⟨m, g⟩⟩ := hshape
        · rw [g]
          have e1 : remL x = x.length := by
            have := rem_app (b := []) (ins_no10 hx)
            rw [List.append_nil] at this
            rw [this]; rfl
          rw [e1, List.drop_length]
          exact (skip_end hx a e).symm
        · rw [g]
          have e1 : remL (x ++ 10 :: m) = x.length := by
            rw [rem_app (ins_no10 hx)]
            simp [remL]
          rw [e1, List.drop_left]
          exact (skip_feed hx m a e).symm
      have hno : ∀ d ∈ r.take (remL r), d ≠ 10 := fun d hdm => by
        have : r.take (remL r) = r.takeWhile (fun c => decide (c ≠ 10)) := take_all r
        rw [this] at hdm
        simpa using List.all_eq_true.1 List.all_takeWhile d hdm
      rw [hsl, hd]
      generalize (mixL s ch i (p + 1 + remL r) (at1 + (1 + remL r)) l).1 = M at ih hskip ⊢
      have htk : (c :: r).take (1 + remL r) = c :: r.take (remL r) := by rw [Nat.add_comm, List.take_succ_cons]
      rw [htk]
      show scanL at1 e (c :: (r.take (remL r) ++ M)) = _
      have hhd : (r.take (remL r) ++ M).head? = some 47 := by
        cases r with
        | nil => cases h3.2
        | cons a r' =>
          have ha : a = 47 := by have := h3.2; injection this
          have : remL (a :: r') = remL r' + 1 := by
            unfold remL
            rw [List.takeWhile_cons_of_pos (by rw [ha]; decide), List.length_cons]
          rw [this, List.take_succ_cons, ha]
          rfl
      have hrem : remL (r.take (remL r) ++ M) = remL r + remL M := by
        rw [rem_app hno, List.length_take, Nat.min_eq_left hle]
      rw [scanL, if_neg h1, if_neg h2, if_pos ⟨h3.1, hhd⟩, hrem]
      have hdrop : (r.take (remL r) ++ M).drop (remL r + remL M) = M.drop (remL M) := by
        rw [← List.drop_drop]
        congr 1
        rw [List.drop_append_of_le_length (by rw [List.length_take]; omega), List.drop_eq_nil_of_le (by rw [List.length_take]; omega), List.nil_append]
      rw [hdrop, show at1 + 1 + (remL r + remL M) = at1 + (1 + remL r) + remL M by omega, hskip]
      exact ih
    rw [if_neg h3] at h
    cases h4 : oneL p (c :: r) with
    | bad b => rw [h4] at h; cases h
    | ok x =>
      obtain ⟨n1, n2⟩ := one_len p _ x h4
      simp only [List.length_cons] at n2
      have hpx := one_place p _ x h4
      rw [h4] at h
      simp only at h
      cases hs : scanL (p + 1 + (x.2 - 1)) (endT x.1) (r.drop (x.2 - 1)) with
      | bad b => rw [hs] at h; cases h
      | ok l' =>
        rw [hs] at h
        injection h with h
        subst h
        have hb : lineB s x.1 = false := by
          unfold lineB
          rw [hpx, hc]
          simp only [Bool.and_eq_false_iff, Bool.or_eq_false_iff, decide_eq_false_iff_not, beq_eq_false_iff_ne, ne_eq, Option.some.injEq]
          exact .inr ⟨by omega, h1⟩
        have ho' := scan_ord _ (r.drop (x.2 - 1)) (p + 1 + (x.2 - 1)) (endT x.1) (Nat.le_refl _)
        rw [hs] at ho'
        have hpn : p + 1 + (x.2 - 1) = p + x.2 := by omega
        have hd' : s.drop (p + x.2) = r.drop (x.2 - 1) := by rw [← hpn]; exact hdk _
        rw [hpn] at hs ho'
        have hplace' : ∀ t ∈ l', t.place ≤ s.length := fun t ht => hplace t (List.mem_cons_of_mem _ ht)
        rw [mixL, hpx, hb]
        simp only [Nat.sub_self, List.take_zero, List.nil_append, List.length_nil, Nat.add_zero]
        obtain ⟨A, hA⟩ : ∃ A, at1 + (ch i false).length = A := ⟨_, rfl⟩
        rw [hA]
        have ih := mix_main hch n (r.drop (x.2 - 1)) (p + x.2) (A + x.2) (i + 1) (endT x.1) l' (by simp; omega) hd' (by omega) hs
        have hag := agree_list (s := s) hch l' (i + 1) (p + x.2) (A + x.2) (endT x.1) ho' hplace' (scan_first hd' hs)
        rw [mix_slide s ch (i + 1) p A x.2 (by omega) l' (fun t ht => ⟨ho'.1 t (List.mem_of_mem_head? ht), hplace' t (List.mem_of_mem_head? ht)⟩), hd]
        generalize (mixL s ch (i + 1) (p + x.2) (A + x.2) l').1 = M at ih hag ⊢
        rw [skip_blank (hch i false), hA]
        have htk : (c :: r).take x.2 = c :: r.take (x.2 - 1) := by
          conv => lhs; rw [show x.2 = (x.2 - 1) + 1 by omega]
          rw [List.take_succ_cons]
        have hw : c :: r = (c :: r).take x.2 ++ s.drop (p + x.2) := by
          rw [hd', htk, List.cons_append, List.take_append_drop]
        have hwl : ((c :: r).take x.2).length = x.2 := by rw [List.length_take, List.length_cons]; omega
        obtain ⟨q, u, v, g1, g2, g3⟩ := hag
        have hone : oneL A ((c :: r).take x.2 ++ M) = .ok (⟨x.1.kind, x.1.text, A⟩, x.2) := by
          rcases g3 with ⟨rfl, rfl⟩ | ⟨c', v', rfl, hsoft⟩
          · rw [g2, ← g1, ← hw]
            exact one_move p A _ x h4
          · rw [hw, g1, ← List.append_assoc] at h4
            rw [g2, ← List.append_assoc]
            refine one_agree p A ?_ v' ((c :: r).take x.2 ++ q) u x h4 (by rw [List.length_append, hwl]; omega)
            rcases hsoft with g | g | g
            · exact .inl g
            · exact .inr (.inl g)
            · exact .inr (.inr g.1)
        have hnr : ¬ (c = 47 ∧ (r.take (x.2 - 1) ++ M).head? = some 47) := by
          rintro ⟨k1, k2⟩
          apply h3
          refine ⟨k1, ?_⟩
          by_cases hx1 : x.2 = 1
          · rw [hx1] at k2 g1 hd'
            simp only [Nat.sub_self, List.take_zero, List.nil_append, List.drop_zero] at k2 hd'
            rw [hd'] at g1
            rw [g2] at k2
            cases q with
            | cons a q =>
              rw [g1]
              exact k2
            | nil =>
              rcases g3 with ⟨rfl, rfl⟩ | ⟨c', v', rfl, hsoft⟩
              · cases k2
              · injection k2 with k2
                subst k2
                rcases hsoft with g | g | g
                · cases g
                · cases g
                · have := g.2 rfl
                  rw [k1] at h4
                  rw [slash_one h4 hx1] at this
                  cases this
          · cases r with
            | nil => simp at n2; omega
            | cons a r' =>
              rw [show x.2 - 1 = (x.2 - 2) + 1 by omega, List.take_succ_cons] at k2
              exact k2
        rw [htk] at hone ⊢
        rw [List.cons_append] at hone ⊢
        rw [scanL, if_neg h1, if_neg h2, if_neg hnr, hone]
        simp only
        have hdr : (r.take (x.2 - 1) ++ M).drop (x.2 - 1) = M := by
          have : (r.take (x.2 - 1)).length = x.2 - 1 := by rw [List.length_take]; omega
          rw [List.drop_append_of_le_length (by omega), List.drop_eq_nil_of_le (by omega), List.nil_append]
        have he : endT ⟨x.1.kind, x.1.text, A⟩ = endT x.1 := rfl
        rw [hdr, he, show A + 1 + (x.2 - 1) = A + x.2 by omega, ih]
        rfl
/-- Blanks, tabs and remarks put in: the same tokens, further on. -/
theorem mix_scan {s : List UInt8} {ch : Nat → Bool → List UInt8} (hch : ∀ i b, Ins b (ch i b)) {l : List Tok} (h : scan s = .ok l) (hz : (mixL s ch 0 0 0 l).1.length ≤ 60000) : scan (mixL s ch 0 0 0 l).1 = .ok (mixL s ch 0 0 0 l).2 := by
  unfold scan at h ⊢
  split at h
  · cases h
  · rw [if_neg (by omega)]
    exact mix_main hch s.length s 0 0 0 false l (Nat.le_refl _) rfl (Nat.zero_le _) h
end Go.Proofs.YtpggcmlddmckcaaDoor
