/- Writers and readers in plain words. No program in sight. No condition. -/
import Derived.Test.YtmdgefiojapogaaDoorSlR
namespace Go.Proofs.YtmdgefiojapogaaDoor
open Go.RowKit
/-- Bytes without the noughts ahead. -/
def bare : List UInt8 → List UInt8
  | [] => []
  | x :: l => if x = 0 then bare l else x :: l
theorem bare_length (l : List UInt8) : (bare l).length ≤ l.length := by
  induction l with
  | nil => exact Nat.le_refl _
  | cons x l ih =>
    unfold bare
    split
    · simp; omega
    · exact Nat.le_refl _
def short (l : List UInt8) : List UInt8 := UInt8.ofNat (bare l).length :: bare l
theorem short_length (l : List UInt8) : (short l).length ≤ l.length + 1 := by have := bare_length l; simp [short]; omega
/-- A number by eight bytes, the highest first. -/
def be8 (n : Nat) : List UInt8 := (List.range 8).map fun i => UInt8.ofNat (n >>> (56 - 8 * i))
theorem be8_length (n : Nat) : (be8 n).length = 8 := by simp [be8]
def form (n : Nat) : List UInt8 := short (be8 n)
theorem form_length (n : Nat) : (form n).length ≤ 9 := by have := short_length (be8 n); rw [be8_length] at this; exact this
/-- A writer: what was laid, the first fault. -/
structure Wr where
  b : List UInt8
  e : Int
namespace Wr
def lay (W : Wr) (x : List UInt8) : Wr := if W.e ≠ 0 then W else if 4194304 < W.b.length + x.length then { W with e := 30 } else { W with b := W.b ++ x }
def number (W : Wr) (n : Int) : Wr := if n < 0 then (if W.e = 0 then { W with e := 32 } else W) else W.lay (form n.toNat)
/-- What holds of every writer. -/
structure Ok (W : Wr) : Prop where
  len : W.b.length ≤ 4194304
theorem Ok.lay {W : Wr} (h : W.Ok) (x : List UInt8) : (W.lay x).Ok := by
  unfold Wr.lay
  split
  · exact h
  · split
    · exact ⟨h.len⟩
    · exact ⟨by simp; omega⟩
theorem Ok.number {W : Wr} (h : W.Ok) (n : Int) : (W.number n).Ok := by
  unfold Wr.number
  split
  · split
    · exact ⟨h.len⟩
    · exact h
  · exact h.lay _
end Wr
end Go.Proofs.YtmdgefiojapogaaDoor
