/- Noughts. No program in sight. No condition. -/
import Derived.Test.YtnmcbdppbpfegaaBase
namespace Go.Proofs.Ytnmcbdppbpfegaa
def zeros (n : Nat) : List UInt8 := List.replicate n 0
theorem zeros_length (n : Nat) : (zeros n).length = n := by simp [zeros]
end Go.Proofs.Ytnmcbdppbpfegaa
