/-
  An argument of type []int, opened. Written by an AI agent.
-/
import Derived.Test.YtpggcmlddmckcaaDoorBl3
import Derived.Test.YtpggcmlddmckcaaDoorRowL
namespace Go.Proofs.YtpggcmlddmckcaaDoor
open Go.RowKit Go.ChangeShapes Go.WideShapes Go.ChangeAt
section
variable {H : Type} {enc : TypeId × Value → H}
theorem cellsI : Tryd.prog.cellsOf 3 = 1 := by kernel_rfl
theorem bytesI : Tryd.prog.bytesOf 3 = 8 := by kernel_rfl
theorem int_wf {n : Int} (h : (Lit.int .i64 n).wf = true) : -9223372036854775808 ≤ n ∧ n ≤ 9223372036854775807 := by
  simpa [Lit.wf, IntKind.min, IntKind.max, IntKind.signed, IntKind.bits] using h
set_option maxRecDepth 100000 in
/-- An argument of type []int, opened. -/
theorem raw_of {W : World} {base : Nat} {v : Value} {d : DataW H} {p : List MemPlace} (hv : Value.okWide Tryd.prog W .any base 51 v)
    (h : DataW.Trod enc Tryd.prog W 0 (fun _ => true) true 51 v d p) (hw : ∀ n ∈ d.weights Tryd.prog 51, n ≤ reachBytes) :
    ∃ (l : List Int) (pa : Option Addr) (pc : Nat), v = .slice pa l.length pc ∧ RawI W pa l ∧ l.length ≤ 17592186043904 := by
  obtain ⟨a, len, cap, rfl⟩ := okWide_slice Tryd.underlying51 hv
  obtain ⟨fuel, hf⟩ := h
  rcases open_ints Tryd.underlying51 Tryd.underlying3 cellsI hf with ⟨e, _⟩ | ⟨a, len, cap, zs, e, _, hl, hm, hz, ex, hc, hwf⟩
  · simp [Value.cells] at e
    obtain ⟨rfl, rfl, rfl⟩ := e
    exact ⟨[], none, 0, rfl, ⟨fun h => absurd rfl h, fun x hx => by cases hx⟩, by simp⟩
  · simp [Value.cells] at e
    obtain ⟨rfl, rfl, rfl⟩ := e
    obtain ⟨rfl, _⟩ := Prod.mk.inj ex
    simp only [if_true] at hz
    have hlen : (zs.take len).length = len := by simp; omega
    refine ⟨zs.take len, some a, cap, by rw [hlen], ⟨fun hn => ?_, fun x hx => int_wf (hwf x (List.mem_of_mem_take hx))⟩, ?_⟩
    · have hp : 0 < zs.length := by
        rcases Nat.eq_zero_or_pos zs.length with h0 | h0
        · rw [List.eq_nil_of_length_eq_zero h0] at hn; simp at hn
        · exact h0
      have h0 := hc 0 hp
      obtain ⟨b, o, s⟩ := a
      have : s = none := by simpa [Addr.add] using World.cell?_spot h0
      subst this
      have had : ∀ j, (Addr.mk b o none).add j = ⟨b, o + j, none⟩ := fun j => by
        unfold Addr.add
        split <;> simp_all
      refine ⟨b, o, rfl, ?_, fun j x hx => ?_⟩
      · have h1 : W.cell? ⟨b, o, none⟩ = some _ := h0
        unfold World.cell? at h1
        cases hh : W.heap[b]? with
        | none => simp [hh] at h1
        | some ob => exact (Array.getElem?_eq_some_iff.1 hh).1
      · rw [List.getElem?_take] at hx
        split at hx
        · have hj : j < zs.length := by
            rcases Nat.lt_or_ge j zs.length with h1 | h1
            · exact h1
            · rw [List.getElem?_eq_none h1] at hx; cases hx
          have := hc j hj
          rw [had] at this
          rw [this, List.getD, hx]; rfl
        · cases hx
    · have := hw ((zs.length) * 8) (by
        simp only [DataW.weights, Tryd.underlying51, bytesI, lits, List.length_map, List.length_take, List.length_drop]
        refine List.mem_cons.2 (.inl ?_)
        congr 1
        omega)
      unfold reachBytes at this
      omega
end
end Go.Proofs.YtpggcmlddmckcaaDoor
