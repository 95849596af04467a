/- Lists of bytes that lie in a list of lists. No condition. -/
import Derived.Test.YtmdgefiojapogaaDoorSl
namespace Go.Proofs.YtmdgefiojapogaaDoor
open Go.RowKit
/-- A list of bytes that lies in a list of lists. -/
structure SlR where
  p : Option Addr
  cap : Nat
  d : List UInt8
def SlR.v (x : SlR) : Value := .slice x.p x.d.length x.cap
def total (xs : List SlR) : Nat := (xs.map (·.d.length)).sum
def joined (xs : List SlR) : List UInt8 := xs.flatMap (·.d)
theorem joined_length (xs : List SlR) : (joined xs).length = total xs := by simp [joined, total, List.length_flatMap]
theorem joined_take_succ (xs : List SlR) (k : Nat) (x : SlR) (h : xs[k]? = some x) : joined (xs.take (k + 1)) = joined (xs.take k) ++ x.d := by
  rw [List.take_add_one, h]; simp [joined]
theorem joined_take_length (xs : List SlR) (k : Nat) : (joined (xs.take k)).length ≤ total xs := by
  have h : joined xs = joined (xs.take k) ++ joined (xs.drop k) := by unfold joined; rw [← List.flatMap_append, List.take_append_drop]
  rw [← joined_length, h, List.length_append]; omega
end Go.Proofs.YtmdgefiojapogaaDoor
