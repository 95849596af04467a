/- make, copy, string(b) over lists of bytes. No condition. -/
import Derived.Test.YtmdgefiojapogaaDoorOwn
import Derived.Test.YtmdgefiojapogaaDoorDgPure
import Derived.Test.YtmdgefiojapogaaDoorMakeCopy
import Derived.Laws.MakeOwn
import Derived.Laws.IdiomCopy
import Derived.Laws.IdiomStrings
import Derived.Laws.BytesString
namespace Go.Proofs.YtmdgefiojapogaaDoor
open Go.RowKit
/-- string(b). -/
theorem str_rd {w : World} {p : Option Addr} {cap : Nat} {l : List UInt8} (hr : Rd V8 w p cap l) (n : Nat) (hn : n = l.length) : (convert 27 9 (.slice p n cap)).run Tryd.prog w = .ok (.string ⟨l.toArray⟩) w := by
  subst hn
  cases l with
  | nil =>
    rw [run_convert_bytes_string w _ _ 5 p _ cap Tryd.underlying27 Tryd.underlying5 Tryd.underlying9]
    cases p <;> simp [Conv.bytesToString, loadCells]
    all_goals rfl
  | cons x l =>
    obtain ⟨b, o, rfl, hrr⟩ := hr.at_ (by simp)
    refine run_convert_bytes_back w _ _ 5 ⟨b, o, none⟩ cap (x :: l) Tryd.underlying27 Tryd.underlying5 Tryd.underlying9 ?_
    intro j hj
    rw [Addr.add_mid]
    exact hrr j _ (by rw [List.getElem?_map, List.getElem?_eq_getElem hj]; rfl)
end Go.Proofs.YtmdgefiojapogaaDoor
