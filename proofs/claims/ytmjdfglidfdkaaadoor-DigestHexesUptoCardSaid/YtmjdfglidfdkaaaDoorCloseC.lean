/- More on what came in: a digest. -/
import Derived.Test.YtmjdfglidfdkaaaDoorCloseB
import Derived.ChangeMaps5
namespace Go.Proofs.YtmjdfglidfdkaaaDoor
open Go.ChangeShapes Go.WideShapes Go.ChangeAt Go.RowKit
def bytesLits {H : Type} (l : List UInt8) : List (DataW H) := l.map fun x => .lit (.int .u8 (x.toNat : Int))
theorem cellsOf26 : Tryd.prog.cellsOf 26 = 32 := by kernel_rfl
theorem digest_in {H : Type} {enc : TypeId × Value → H} {W : World} {base : Nat} {v : Value} {d : DataW H} {p : List MemPlace} (hv : Value.okWide Tryd.prog W .any base 26 v) (h : DataW.Trod enc Tryd.prog W 0 (fun _ => true) true 26 v d p) :
    ∃ l : List UInt8, l.length = 32 ∧ v = dv l := by
  simp only [Value.okWide, Tryd.underlying26] at hv
  obtain ⟨cs, rfl, hsz, _⟩ := hv
  rw [cellsOf26] at hsz
  obtain ⟨fuel, hf⟩ := h
  obtain ⟨xs, m, _, _, _, hxl, hx⟩ := DataW.trod_array Tryd.underlying26 hf
  have hc : ∀ i, i < 32 → ∃ z : UInt8, cs[i]? = some (V8 z) := by
    intro i hi
    have h1 := hx i hi
    rw [cellsOf5, Nat.mul_one, List.getElem?_eq_getElem (show i < xs.length by omega)] at h1
    obtain ⟨n, e1, _, hw⟩ := DataW.trod_int Tryd.underlying5 h1
    have h3 : (0 : Int) ≤ n ∧ n ≤ 255 := by
      simp only [Lit.wf, Bool.and_eq_true, decide_eq_true_eq] at hw
      exact hw
    have e2 : (Value.agg cs).cells.toList[i]? = some (.int .u8 n) := by
      have := congrArg (·[0]?) e1
      simpa [List.getElem?_take, List.getElem?_drop] using this
    refine ⟨UInt8.ofNat n.toNat, ?_⟩
    have e3 : cs[i]? = some (.int .u8 n) := by simpa [Value.cells] using e2
    rw [e3]
    unfold V8
    rw [UInt8.toNat_ofNat']
    congr 2
    omega
  obtain ⟨f, hfz⟩ := Go.Deep.choose_lt hc
  refine ⟨(List.range 32).map f, by simp, ?_⟩
  unfold dv
  congr 1
  apply Array.ext_getElem?
  intro i
  by_cases hi : i < 32
  · rw [hfz i hi]
    simp [hi]
  · rw [Array.getElem?_eq_none (by omega), Array.getElem?_eq_none (by simp; omega)]
end Go.Proofs.YtmjdfglidfdkaaaDoor
