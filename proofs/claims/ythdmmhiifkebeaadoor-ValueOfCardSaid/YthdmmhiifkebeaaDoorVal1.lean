/-
  Contracts of package value's smallest functions: plain, leads, and slices.ContainsFunc at leads' own literal. Each: for all arguments of which the memory is as said. Written by an AI agent.
-/
import Derived.Test.YthdmmhiifkebeaaDoorProg
import Derived.Test.YthdmmhiifkebeaaDoorBase
import Derived.WalkLawsBesides
import Derived.WalkSpells
import Derived.Deep.LoopGhost
import Derived.Lib.Hide
import Derived.Outline
namespace Go.Proofs.YthdmmhiifkebeaaDoor
open Go.RowKit

theorem nz (n : Nat) : ((n : Int) == 0) = decide (n = 0) := by rw [Bool.eq_iff_iff]; simp

theorem ret_int {k : IntKind} {a b : Int} (h : a = b) : Ending.returned (.int k a) = .returned (.int k b) := by rw [h]
theorem ret_bool {a b : Bool} (h : a = b) : Ending.returned (.bool a) = .returned (.bool b) := by rw [h]

def plainB (o f l c : Int) (pl : Nat) : Bool := decide (o = 0 ∧ f = 0 ∧ l = 0 ∧ c = 0 ∧ pl = 0)

set_option maxHeartbeats 400000 in
theorem plain_any (o f l c : Int) (pa : Option Addr) (pl pc : Nat) (w : World) :
    Calls Tryd.prog 115 #[.agg #[.int .i64 o, .int .i64 f, .int .i64 l, .int .i64 c, .slice pa pl pc]] w
      fun e w' => e = .returned (.bool (plainB o f l c pl)) ∧ Below w.heap.size w w' := by
  have hB : Below w.heap.size w (w.alloc (.cells #[.int .i64 o, .int .i64 f, .int .i64 l, .int .i64 c, .slice pa pl pc] 25)) := (Below.refl _ _).alloc (Nat.le_refl _) _
  go_enter Tryd.func115, Tryd.ntmps115
  go_wp2
  all_goals
    go_ret
    refine ⟨?_, (Below.refl _ _).alloc (Nat.le_refl _) _⟩
    simp [plainB, *, nz]

/-- What the literal in leads asks of a number of a path. -/
def outB (x : Int) : Bool := decide (x < 0 ∨ 30 ≤ x)
set_option maxHeartbeats 400000 in
theorem lit_any (x : Int) (w : World) : Calls Tryd.prog 117 #[.int .i64 x] w fun e w' => e = .returned (.bool (outB x)) ∧ w = w' := by
  go_enter Tryd.func117, Tryd.ntmps117
  go_wp2
  all_goals
    go_ret
    refine ⟨?_, rfl⟩
    simp [outB, *]

def idxB (l : List Int) : Int := match l.findIdx? outB with | some i => i | none => -1
theorem idx_hit (l : List Int) (k : Nat) (x : Int) (hk : l[k]? = some x) (hx : outB x = true) (hn : ∀ j y, j < k → l[j]? = some y → outB y = false) : idxB l = k := by
  have h : l.findIdx? outB = some k := by
    rw [List.findIdx?_eq_some_iff_getElem]
    have hl : k < l.length := by
      rcases Nat.lt_or_ge k l.length with h | h
      · exact h
      · rw [List.getElem?_eq_none h] at hk; cases hk
    refine ⟨hl, by rw [List.getElem?_eq_getElem hl] at hk; injection hk with hk; rw [hk]; exact hx, fun j hj => ?_⟩
    have := hn j (l[j]'(by omega)) hj (List.getElem?_eq_getElem (by omega))
    simp [this]
  unfold idxB; rw [h]
theorem idx_miss (l : List Int) (hn : ∀ j y, j < l.length → l[j]? = some y → outB y = false) : idxB l = -1 := by
  have h : l.findIdx? outB = none := by
    rw [List.findIdx?_eq_none_iff]
    intro x hx
    obtain ⟨j, hj, e⟩ := List.mem_iff_getElem.1 hx
    exact hn j x hj (by rw [List.getElem?_eq_getElem hj, e])
  unfold idxB; rw [h]

set_option maxHeartbeats 400000 in
theorem indexFunc_any (l : List Int) (pa : Option Addr) (pc : Nat) (w : World) (hl : l.length ≤ 9223372036854775807) (hp : PathAt w (fun _ => True) pa l) :
    Calls Tryd.prog 125 #[.slice pa l.length pc, .func (.func 117) #[] #[]] w fun e w' => e = .returned (.int .i64 (idxB l)) ∧ w = w' := by
  go_enter Tryd.func125, Tryd.ntmps125
  go_wp2
  go_loopg [8] l.length (fun g i wr => ∃ k : Nat, k ≤ l.length ∧ i = .int .i64 k ∧ g = l.length - k ∧ w = wr ∧ ∀ j y, j < k → l[j]? = some y → outB y = false)
  case atStart => exact ⟨0, by omega, rfl, by omega, rfl, by omega⟩
  case round =>
    obtain ⟨k, hk, rfl, rfl, rfl, hn⟩ := hrel
    have HN := Lib.hid hn
    clear hn
    by_cases hlt : k < l.length
    · obtain ⟨x, hx⟩ : ∃ x, l[k]? = some x := ⟨_, List.getElem?_eq_getElem hlt⟩
      obtain ⟨b, o, rfl, _, hc⟩ := hp.get hx
      have HX := Lib.hid hx
      clear hx
      go_wp2_with (go_at_call 117; refine (lit_any _ _).mono ?_; rintro e w' ⟨rfl, rfl⟩)
      · go_ret
        exact ⟨ret_int (idx_hit l k x HX.out (by assumption) HN.out).symm, rfl⟩
      · go_roundg (l.length - (k + 1))
        case measure => omega
        case rel =>
          refine ⟨k + 1, by omega, by go_num, rfl, rfl, fun j y hj hy => ?_⟩
          by_cases hjk : j = k
          · subst hjk
            rw [HX.out] at hy
            injection hy with hy
            subst hy
            assumption
          · exact HN.out j y (by omega) hy
    · have hkl : k = l.length := by omega
      subst hkl
      go_wp2
      go_ret
      exact ⟨ret_int (idx_miss l HN.out).symm, rfl⟩

/-- Some number of a path stands outside. -/
def anyOut (l : List Int) : Bool := l.any outB
theorem idx_any (l : List Int) : decide (0 ≤ idxB l) = anyOut l := by
  unfold idxB anyOut
  cases h : l.findIdx? outB with
  | none =>
    rw [List.findIdx?_eq_none_iff] at h
    have : l.any outB = false := by rw [List.any_eq_false]; intro x hx; simp [h x hx]
    simp [this]
  | some i =>
    have : l.any outB = true := by
      rw [List.findIdx?_eq_some_iff_getElem] at h
      obtain ⟨hl, hx, _⟩ := h
      exact List.any_eq_true.2 ⟨_, List.getElem_mem hl, hx⟩
    simp [this]

set_option maxHeartbeats 400000 in
theorem containsFunc_any (l : List Int) (pa : Option Addr) (pc : Nat) (w : World) (hl : l.length ≤ 9223372036854775807) (hp : PathAt w (fun _ => True) pa l) :
    Calls Tryd.prog 116 #[.slice pa l.length pc, .func (.func 117) #[] #[]] w fun e w' => e = .returned (.bool (anyOut l)) ∧ w = w' := by
  go_enter Tryd.func116, Tryd.ntmps116
  go_wp2_with (go_at_call 125; refine (indexFunc_any _ _ _ _ hl hp).mono ?_; rintro e w' ⟨rfl, rfl⟩)
  go_ret
  exact ⟨ret_bool (idx_any l), rfl⟩

def leadsB (kind o f l c : Int) (p : List Int) : Bool :=
  if o < 0 ∨ 2147483647 < o then false
  else if kind = 5 then decide (p.length = 0) && (plainB o f l c p.length || decide (0 < o ∧ 0 ≤ f ∧ 0 ≤ l ∧ l ≤ c ∧ f ≤ 1048576 ∧ c ≤ 1048576 - f))
  else if kind = 6 ∨ kind = 7 ∨ kind = 9 then
    if f ≠ 0 ∨ l ≠ 0 ∨ c ≠ 0 ∨ (0 < p.length ∧ (kind ≠ 9 ∨ o = 0)) ∨ 100 < p.length then false else !(anyOut p)
  else plainB o f l c p.length

set_option maxHeartbeats 400000 in
theorem leads_any (kind o f l c : Int) (p : List Int) (pa : Option Addr) (pc : Nat) (w : World) (hl : p.length ≤ 9223372036854775807) (hp : PathAt w (fun _ => True) pa p) :
    Calls Tryd.prog 92 #[.int .i64 kind, .agg #[.int .i64 o, .int .i64 f, .int .i64 l, .int .i64 c, .slice pa p.length pc]] w
      fun e w' => e = .returned (.bool (leadsB kind o f l c p)) ∧ Below w.heap.size w w' := by
  go_enter Tryd.func92, Tryd.ntmps92
  go_wp2_with (first
    | (go_at_call 115; refine (plain_any _ _ _ _ _ _ _ _).mono ?_; rintro e w1 ⟨rfl, hb1⟩; obtain ⟨hc1, hf1⟩ := bcell hb1)
    | (go_at_call 116; refine (containsFunc_any p pa pc _ hl (by exact hp.keep (fun b _ hb => Below.heap_alloc _ _ _ hb) (fun _ _ _ => trivial))).mono ?_; rintro e w' ⟨rfl, rfl⟩))
  all_goals
    go_ret
    refine ⟨ret_bool ?_, by first | exact (Below.refl _ _).alloc (Nat.le_refl _) _ | exact ((Below.refl _ _).alloc (Nat.le_refl _) _).trans (hb1.mono (by simp))⟩
    simp_all [leadsB] <;> first | omega | grind
end Go.Proofs.YthdmmhiifkebeaaDoor
