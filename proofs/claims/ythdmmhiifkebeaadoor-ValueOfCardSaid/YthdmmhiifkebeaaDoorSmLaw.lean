/-
  The plain law of Same: it goes both ways, and a datum is the same as itself. No program in sight. Written by an AI agent.
-/
import Derived.Test.YthdmmhiifkebeaaDoorVal16
namespace Go.Proofs.YthdmmhiifkebeaaDoor

theorem oneB_refl (h : Hd) : oneB h h = true := by unfold oneB; simp
theorem oneB_symm (h h' : Hd) : oneB h h' = oneB h' h := by
  unfold oneB
  rw [decide_eq_decide]
  constructor <;> (rintro ⟨a, b⟩; exact ⟨a.symm, b.symm⟩)
theorem sameHd_refl (h : Hd) : sameHd h h = true := by unfold sameHd; rw [oneB_refl]; simp
theorem beq_symm (a b : Int) : (a == b) = (b == a) := by rw [Bool.eq_iff_iff]; simp only [beq_iff_eq]; exact ⟨Eq.symm, Eq.symm⟩
theorem dec_symm {α : Type} [DecidableEq α] (a b : α) : decide (a = b) = decide (b = a) := by rw [decide_eq_decide]; exact ⟨Eq.symm, Eq.symm⟩
theorem sameHd_symm (h h' : Hd) : sameHd h h' = sameHd h' h := by
  unfold sameHd
  rw [oneB_symm h h', beq_symm h.n, beq_symm h.f, dec_symm h.s, beq_symm h.obj, beq_symm h.frm, beq_symm h.len, beq_symm h.cap]
theorem sameF_refl : ∀ f : Fo, sameF f f = true
  | .nil => rfl
  | .cons h k r => by unfold sameF; rw [sameHd_refl, sameF_refl k, sameF_refl r]; simp
theorem sameF_symm : ∀ f g : Fo, sameF f g = sameF g f
  | .nil, .nil => rfl
  | .nil, .cons .. => rfl
  | .cons .., .nil => rfl
  | .cons h k r, .cons h' k' r' => by
    unfold sameF
    rw [sameHd_symm h h', dec_symm h.path, sameF_symm k k', sameF_symm r r']
theorem sameD_refl (h : Hd) (k : Fo) : sameD h k h k = true := by unfold sameD; rw [sameHd_refl, sameF_refl]; simp
theorem sameD_symm (h : Hd) (k : Fo) (h' : Hd) (k' : Fo) : sameD h k h' k' = sameD h' k' h k := by
  unfold sameD
  rw [sameHd_symm h h', dec_symm h.path, sameF_symm k k']
end Go.Proofs.YthdmmhiifkebeaaDoor
