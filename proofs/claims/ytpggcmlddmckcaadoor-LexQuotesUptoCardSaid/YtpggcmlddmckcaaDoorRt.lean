/-
  Results that lie in cells. Written by an AI agent.
-/
import Derived.Test.YtpggcmlddmckcaaDoorGv
namespace Go.Proofs.YtpggcmlddmckcaaDoor
open Go.RowKit
set_option maxRecDepth 100000
section
variable {P : Program} {fn : Func} {R : Ending → World → Prop} {a : Act} {w : World} {n t u c d ty ty' : Nat} {l : List (Nat × Value)} {v x z y : Value} {p p' : Addr}
theorem var_run (h : Lds P ty (.pointer (some p)) z w) : (loadVar ty p).run P w = .ok z w := by
  have := h.run
  simpa [Instr.loadAt, Instr.sureAddr] using this
theorem look_getD (hs : Sl n a l) (e : l.lookup t = some v) : a.tmps[t]?.getD undef = v := by
  have := hs.look t e
  unfold slot at this
  rwa [Array.getD_eq_getD_getElem?] at this
theorem ret_ttc (hr : fn.results = #[.tmp t, .tmp u, .cell c ty]) (hs : Sl n a l) (e1 : l.lookup t = some v) (e2 : l.lookup u = some x) (e3 : l.lookup c = some (.pointer (some p))) (hl : Lds P ty (.pointer (some p)) z w) (h : R (.returned (.tuple #[v, x, z])) w) : bodyPost P fn R .ret a w :=
  bodyPost_ret (v := .tuple #[v, x, z]) (by
    simp [results, hr, look_getD hs e1, look_getD hs e2, look_getD hs e3, asAddr, var_run hl]) hs.defers h
theorem ret_tc (hr : fn.results = #[.tmp t, .cell c ty]) (hs : Sl n a l) (e1 : l.lookup t = some v) (e3 : l.lookup c = some (.pointer (some p))) (hl : Lds P ty (.pointer (some p)) z w) (h : R (.returned (.tuple #[v, z])) w) : bodyPost P fn R .ret a w :=
  bodyPost_ret (v := .tuple #[v, z]) (by
    simp [results, hr, look_getD hs e1, look_getD hs e3, asAddr, var_run hl]) hs.defers h
theorem ret_ct (hr : fn.results = #[.cell c ty, .tmp t]) (hs : Sl n a l) (e3 : l.lookup c = some (.pointer (some p))) (e1 : l.lookup t = some v) (hl : Lds P ty (.pointer (some p)) z w) (h : R (.returned (.tuple #[z, v])) w) : bodyPost P fn R .ret a w :=
  bodyPost_ret (v := .tuple #[z, v]) (by
    simp [results, hr, look_getD hs e1, look_getD hs e3, asAddr, var_run hl]) hs.defers h
theorem ret_ctc (hr : fn.results = #[.cell c ty, .tmp t, .cell d ty']) (hs : Sl n a l) (e3 : l.lookup c = some (.pointer (some p))) (e1 : l.lookup t = some v) (e4 : l.lookup d = some (.pointer (some p'))) (hl : Lds P ty (.pointer (some p)) z w) (hl' : Lds P ty' (.pointer (some p')) y w) (h : R (.returned (.tuple #[z, v, y])) w) : bodyPost P fn R .ret a w :=
  bodyPost_ret (v := .tuple #[z, v, y]) (by
    simp [results, hr, look_getD hs e1, look_getD hs e3, look_getD hs e4, asAddr, var_run hl, var_run hl']) hs.defers h
end
end Go.Proofs.YtpggcmlddmckcaaDoor
