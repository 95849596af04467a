/- Noughts. No program in sight. No condition. -/
import Derived.Test.YtmdgefiojapogaaDoorBase
namespace Go.Proofs.YtmdgefiojapogaaDoor
def zeros (n : Nat) : List UInt8 := List.replicate n 0
theorem zeros_length (n : Nat) : (zeros n).length = n := by simp [zeros]
end Go.Proofs.YtmdgefiojapogaaDoor
