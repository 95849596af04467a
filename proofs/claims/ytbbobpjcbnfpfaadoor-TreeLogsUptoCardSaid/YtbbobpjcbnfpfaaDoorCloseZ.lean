/- The tables of math/bits among the laid ones. No condition. -/
import Derived.Test.YtbbobpjcbnfpfaaDoorCloseT
import Derived.Test.YtbbobpjcbnfpfaaDoorTrBits
namespace Go.Proofs.YtbbobpjcbnfpfaaDoor
open Go.ChangeShapes Go.WideShapes Go.ChangeAt Go.RowKit
theorem cellsOf8u : Tryd.prog.cellsOf 5 = 1 := by kernel_rfl
theorem cellsOf64u : Tryd.prog.cellsOf 123 = 64 := by kernel_rfl
def nats (l : List Nat) : List Int := l.map fun (n : Nat) => (n : Int)
theorem gZ : Tryd.prog.globalNamed "math/bits.deBruijn64tab" = some 3 := by kernel_rfl
theorem gZT : (Tryd.prog.globals[3]?).map (·.type) = some 123 := by kernel_rfl
theorem dZ : (Rows.laid_math_bits_deBruijn64tab : DataW Unit) = Lib.tabData .u8 (nats Lib.deBruijn64tab) := by kernel_rfl
theorem tabZ_of {W : World} (h : Lib.TabIs Tryd.prog W "math/bits.deBruijn64tab" .u8 (nats Lib.deBruijn64tab)) : TabZ W := by
  intro j hj
  have hc := h.cell gZ j (by unfold nats; rw [List.length_map]; exact hj)
  rw [hc]
  have h64 : j < Lib.deBruijn64tab.length := hj
  simp [nats, List.getElem?_eq_getElem h64]
theorem tabs3_of {W : World} (h : laidMetH Tryd.prog [("math/bits.deBruijn32tab", Rows.laid_math_bits_deBruijn32tab), ("math/bits.deBruijn64tab", Rows.laid_math_bits_deBruijn64tab), ("causeway/digest.steps", Rows.laid_causeway_digest_steps)] W) : TabZ W ∧ Tab W := by
  have h0 : laidMet Tryd.prog [("math/bits.deBruijn32tab", Rows.laid_math_bits_deBruijn32tab), ("math/bits.deBruijn64tab", Lib.tabData .u8 (nats Lib.deBruijn64tab)), ("causeway/digest.steps", Lib.tabData .u32 (ints steps))] W := by
    rw [← dZ, ← dS]; exact h
  refine ⟨tabZ_of (Lib.tabIs_of_head gZ gZT Tryd.underlying123 Tryd.underlying5 cellsOf8u cellsOf64u h0.tail), ?_⟩
  exact tab_range (Lib.tabIs_of_head gS gST Tryd.underlying133 Tryd.underlying119 cellsOf60 cellsOf80 h0.tail.tail) gS
theorem tabs5_of {W : World} (h : laidMetH Tryd.prog [("math/bits.deBruijn32tab", Rows.laid_math_bits_deBruijn32tab), ("math/bits.deBruijn64tab", Rows.laid_math_bits_deBruijn64tab), ("causeway/causewayref01.constants", Rows.laid_causeway_causewayref01_constants), ("causeway/causewayref01.beginning", Rows.laid_causeway_causewayref01_beginning), ("causeway/digest.steps", Rows.laid_causeway_digest_steps)] W) : TabZ W ∧ TabR W ∧ TabB W ∧ Tab W := by
  have h0 : laidMet Tryd.prog [("math/bits.deBruijn32tab", Rows.laid_math_bits_deBruijn32tab), ("math/bits.deBruijn64tab", Lib.tabData .u8 (nats Lib.deBruijn64tab)), ("causeway/causewayref01.constants", Rows.laid_causeway_causewayref01_constants), ("causeway/causewayref01.beginning", Rows.laid_causeway_causewayref01_beginning), ("causeway/digest.steps", Rows.laid_causeway_digest_steps)] W := by
    rw [← dZ]; exact h
  exact ⟨tabZ_of (Lib.tabIs_of_head gZ gZT Tryd.underlying123 Tryd.underlying5 cellsOf8u cellsOf64u h0.tail), tabs_of h0.tail.tail⟩
noncomputable def laidWorldZ (os : Os) : World :=
  { laidWorld os with heap := ((laidWorld os).heap.modify 2 (laidObj (Lib.deBruijn32tab.map fun (n : Nat) => Value.int .u8 n).toArray)).modify 3 (laidObj (Lib.deBruijn64tab.map fun (n : Nat) => Value.int .u8 n).toArray) }
end Go.Proofs.YtbbobpjcbnfpfaaDoor
