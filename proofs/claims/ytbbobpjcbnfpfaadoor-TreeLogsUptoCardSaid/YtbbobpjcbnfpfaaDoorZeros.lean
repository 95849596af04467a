/- Noughts. No program in sight. No condition. -/
import Derived.Test.YtbbobpjcbnfpfaaDoorBase
namespace Go.Proofs.YtbbobpjcbnfpfaaDoor
def zeros (n : Nat) : List UInt8 := List.replicate n 0
theorem zeros_length (n : Nat) : (zeros n).length = n := by simp [zeros]
end Go.Proofs.YtbbobpjcbnfpfaaDoor
