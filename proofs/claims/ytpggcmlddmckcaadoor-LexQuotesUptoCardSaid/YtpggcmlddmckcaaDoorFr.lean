/-
  Great frames: the frame of a walk as a variable, of which a few slots are known; the regions of a function by their numbers. Written by an AI agent.
-/
import Derived.Test.YtpggcmlddmckcaaDoorQ
namespace Go.Proofs.YtpggcmlddmckcaaDoor
open Go.RowKit

/-- What slot k of a frame holds. -/
def slot (a : Act) (k : Nat) : Value := a.tmps.getD k undef
/-- A frame of n slots, with nothing deferred, of which some slots are known. -/
structure Sl (n : Nat) (a : Act) (l : List (Nat × Value)) : Prop where
  size : a.tmps.size = n
  defers : a.defers = []
  known : ∀ p ∈ l, slot a p.1 = p.2
theorem find_mem {k : Nat} {v : Value} : ∀ {l : List (Nat × Value)}, l.lookup k = some v → (k, v) ∈ l
  | [], h => by cases h
  | (j, u) :: l, h => by
    rw [List.lookup_cons] at h
    by_cases e : (k == j) = true
    · have e' : k = j := by simpa using e
      subst e'
      simp at h
      subst h
      exact List.mem_cons_self
    · have e' : (k == j) = false := by simpa using e
      rw [e'] at h
      exact List.mem_cons_of_mem _ (find_mem h)
theorem Sl.look {n : Nat} {a : Act} {l : List (Nat × Value)} (h : Sl n a l) (k : Nat) {v : Value} (e : l.lookup k = some v) : slot a k = v := h.known (k, v) (find_mem e)
/-- The slots that stay are known as before. -/
theorem Sl.keep {n : Nat} {a a' : Act} {l : List (Nat × Value)} {ks : List Nat} (h : Sl n a l) (hs : a'.tmps.size = n) (hd : a'.defers = []) (hk : ∀ k ∈ ks, slot a' k = slot a k) (hl : (l.map Prod.fst).all (fun k => ks.contains k) = true) : Sl n a' l :=
  ⟨hs, hd, fun p hp => (hk p.1 (by
    have := List.all_eq_true.1 hl p.1 (List.mem_map_of_mem hp)
    simpa using this)).trans (h.known p hp)⟩
theorem Sl.add {n : Nat} {a : Act} {l : List (Nat × Value)} (h : Sl n a l) {k : Nat} {v : Value} (e : slot a k = v) : Sl n a ((k, v) :: l) :=
  ⟨h.size, h.defers, fun p hp => by
    rcases List.mem_cons.1 hp with rfl | hp
    · exact e
    · exact h.known p hp⟩
def KeepL (f : Nat → Value) (a' : Act) : List Nat → Prop
  | [] => True
  | k :: ks => slot a' k = f k ∧ KeepL f a' ks
theorem KeepL.get {f : Nat → Value} {a' : Act} : ∀ {ks : List Nat}, KeepL f a' ks → ∀ k ∈ ks, slot a' k = f k
  | [], _, k, h => by cases h
  | j :: ks, ⟨h1, h2⟩, k, h => by
    rcases List.mem_cons.1 h with rfl | h
    · exact h1
    · exact KeepL.get h2 k h
theorem Sl.stay {n : Nat} {a a' : Act} {l : List (Nat × Value)} {f : Nat → Value} (ks : List Nat) (h : Sl n a l) (hf : ∀ k, slot a k = f k) (hs : a'.tmps.size = n) (hd : a'.defers = []) (hk : KeepL f a' ks) (hl : (l.map Prod.fst).all (fun k => ks.contains k) = true) : Sl n a' l :=
  h.keep hs hd (fun k hm => (hk.get k hm).trans (hf k).symm) hl
theorem Sl.sub {n : Nat} {a : Act} {l l' : List (Nat × Value)} (h : Sl n a l) (hl : ∀ p ∈ l', p ∈ l) : Sl n a l' := ⟨h.size, h.defers, fun p hp => h.known p (hl p hp)⟩
theorem spread (a : Act) (n : Nat) (h1 : a.tmps.size = n) (h2 : a.defers = []) : a = ⟨((List.range n).map (slot a)).toArray, []⟩ := by
  obtain ⟨t, d⟩ := a
  have h2 : d = [] := h2
  have h1 : t.size = n := h1
  subst h2
  subst h1
  have : t = ((List.range t.size).map (slot ⟨t, []⟩)).toArray := by
    apply Array.ext
    · simp
    · intro i h3 h4
      simp [slot, Array.getD, h3]
  rw [← this]
theorem Sl.tl {n : Nat} {a : Act} {p : Nat × Value} {l : List (Nat × Value)} (h : Sl n a (p :: l)) : Sl n a l := ⟨h.size, h.defers, fun q hq => h.known q (List.mem_cons_of_mem _ hq)⟩
theorem Sl.none {n : Nat} {a : Act} {l : List (Nat × Value)} (h : Sl n a l) : Sl n a [] := ⟨h.size, h.defers, fun _ hp => by cases hp⟩
/-- A test whose 'then' does nothing. -/
theorem wpc_on {P : Program} {k : Nat} {y : Code} {K : Act → World → Prop} {Q : Exit → Act → World → Prop} {a : Act} {w : World} (hc : slot a k = .bool true) (h : K a w) : (Code.cond (.tmp k) .skip y).wp P (Exit.then K Q) a w := wp_cond_true hc (wp_skip h)
/-- The way out of a loop. -/
theorem wpc_exit {P : Program} {k n : Nat} {Q : Exit → Act → World → Prop} {a : Act} {w : World} (hc : slot a k = .bool false) (h : Q (.exit n) a w) : (Code.cond (.tmp k) .skip (.exit n)).wp P Q a w := wp_cond_false hc (wp_exit h)
/-- A test that fails, with nothing else to do. -/
theorem wpc_off {P : Program} {k : Nat} {x : Code} {Q : Exit → Act → World → Prop} {a : Act} {w : World} (hc : slot a k = .bool false) (h : Q .normal a w) : (Code.cond (.tmp k) x .skip).wp P Q a w := wp_cond_false hc (wp_skip h)
/-- How far a counter is from an end. -/
def muTo (n : Nat) : Value → Nat
  | .int _ x => n - x.toNat
  | _ => 0
theorem muTo_int (n : Nat) (k : IntKind) (x : Nat) : muTo n (.int k (x : Int)) = n - x := by simp [muTo]
/-- The region of that number. -/
def findR (n : Nat) : Code → Option Code
  | .region id ops d => if id = n then some (.region id ops d) else none
  | .seq a b => match findR n a with
    | some c => some c
    | none => findR n b
  | .cond _ a b => match findR n a with
    | some c => some c
    | none => findR n b
  | .block _ c => findR n c
  | .loop c => findR n c
  | .scope c => findR n c
  | _ => none
end Go.Proofs.YtpggcmlddmckcaaDoor
