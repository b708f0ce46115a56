import Derived.Test.YtdhbnblpkodhjaaDoorAppX
import Derived.Test.YtdhbnblpkodhjaaDoorRows
import Derived.LaidMore
import Derived.Lib.LaidTab
namespace Go.Proofs.YtdhbnblpkodhjaaDoor.BytesX
open Go Go.RowKit Go.Lib Go.Proofs.YtdhbnblpkodhjaaDoor.AE
set_option maxRecDepth 100000
/-! Out of the row's condition: the table stands. -/
theorem gPow : Tryd.prog.globalNamed tabName = some 1 := by kernel_rfl
theorem tPow : (Tryd.prog.globals[1]?).map (·.type) = some 81 := by kernel_rfl
theorem inv_of_met {W : World} (h : laidMet Tryd.prog [("math/bits.deBruijn32tab", Rows.laid_math_bits_deBruijn32tab), ("math/bits.deBruijn64tab", Rows.laid_math_bits_deBruijn64tab), ("internal/strconv.uint64pow10", Rows.laid_internal_strconv_uint64pow10)] W) : XB.inv W (atLaw W) := by
  obtain ⟨ps, ⟨g0, t0, cs0, f0, p0, q0, hg0, ht0, hv0, hd0, ⟨g1, t1, cs1, f1, p1, q1, hg1, ht1, hv1, hd1, ⟨g2, t2, cs2, f2, p2, q2, hg2, ht2, hv2, hd2, _, _⟩, _⟩, _⟩, _⟩ := h
  obtain rfl := Option.some.inj (gPow.symm.trans hg2)
  obtain rfl := Option.some.inj (tPow.symm.trans ht2)
  have e : (Rows.laid_internal_strconv_uint64pow10 : DataW Unit) = Lib.tabData .u64 Lib.pow10Tab := by kernel_rfl
  rw [e] at hd2
  have hc := Lib.cells_of_tab Tryd.underlying81 Tryd.underlying72 (by kernel_rfl) (by kernel_rfl) hd2
  refine ⟨1, gPow, ⟨trivial, ?_, fun o h => by cases h⟩, ?_⟩
  · rcases Nat.lt_or_ge 1 W.heap.size with h | h
    · exact h
    · exfalso
      have hv := hv2
      unfold World.var? at hv
      rw [show Tryd.prog.globalNamed "internal/strconv.uint64pow10" = some 1 from gPow] at hv
      simp [Array.getElem?_eq_none h] at hv
  · unfold TabIs
    rw [show tabName = "internal/strconv.uint64pow10" from rfl, hv2, ← hc]
end Go.Proofs.YtdhbnblpkodhjaaDoor.BytesX
