/- What a reader takes off bytes, in plain words. No program in sight. No condition. -/
import Derived.Test.YtnmcbdppbpfegaaWrPure
namespace Go.Proofs.Ytnmcbdppbpfegaa
open Go.RowKit
/-- A reader: bytes, the place, the first fault. -/
structure Rr where
  b : List UInt8
  at_ : Nat
  e : Int
/-- The bytes of a number of at most so many. -/
def highP (most : Nat) : List UInt8 → Except Int (List UInt8)
  | [] => .error 31
  | k :: r => if most < k.toNat then .error 32 else if r.length < k.toNat then .error 31 else if k ≠ 0 ∧ r.head? = some 0 then .error 32 else .ok (r.take k.toNat)
/-- Bytes as a number, the highest first. -/
def beN (l : List UInt8) : Nat := l.foldl (fun n c => n * 256 + c.toNat) 0
theorem beN_snoc (l : List UInt8) (x : UInt8) : beN (l ++ [x]) = beN l * 256 + x.toNat := by simp [beN]
theorem beN_acc : ∀ (l : List UInt8) (n : Nat), l.foldl (fun n c => n * 256 + c.toNat) n < (n + 1) * 256 ^ l.length
  | [], n => by simp
  | x :: l, n => by
    have ih := beN_acc l (n * 256 + x.toNat)
    have hx := x.toNat_lt
    have h2 : (n * 256 + x.toNat + 1) * 256 ^ l.length ≤ ((n + 1) * 256) * 256 ^ l.length := Nat.mul_le_mul_right _ (by omega)
    have h3 : ((n + 1) * 256) * 256 ^ l.length = (n + 1) * 256 ^ (x :: l).length := by rw [List.length_cons, Nat.pow_succ, Nat.mul_assoc, Nat.mul_comm 256]
    rw [List.foldl_cons]
    omega
theorem beN_lt (l : List UInt8) : beN l < 256 ^ l.length := by
  have := beN_acc l 0
  simpa [beN] using this
/-- A number, and how many bytes it takes. -/
def numP (l : List UInt8) : Except Int (Nat × Nat) :=
  match highP 8 l with
  | .error e => .error e
  | .ok h => if beN h < 9223372036854775808 then .ok (beN h, 1 + h.length) else .error 32
/-- A number, at most so great, and no greater than there are bytes behind it. -/
def manyP (most : Int) (l : List UInt8) : Except Int (Nat × Nat) :=
  match numP l with
  | .error e => .error e
  | .ok (n, c) => if most < (n : Int) then .error 30 else if l.length - c < n then .error 31 else .ok (n, c)
theorem highP_ok {most : Nat} {l h : List UInt8} (he : highP most l = .ok h) : h.length ≤ most ∧ 1 + h.length ≤ l.length ∧ h.length ≤ 255 := by
  cases l with
  | nil => cases he
  | cons k r =>
    simp only [highP] at he
    split at he
    · cases he
    split at he
    · cases he
    split at he
    · cases he
    · injection he with he
      subst he
      have := k.toNat_lt
      simp
      omega
theorem numP_ok {l : List UInt8} {n c : Nat} (h : numP l = .ok (n, c)) : n < 9223372036854775808 ∧ 1 ≤ c ∧ c ≤ l.length := by
  unfold numP at h
  split at h
  · cases h
  · rename_i hh hp
    split at h
    · rename_i hlt
      injection h with h
      injection h with h1 h2
      have := highP_ok hp
      omega
    · cases h
theorem manyP_ok {most : Int} {l : List UInt8} {n c : Nat} (h : manyP most l = .ok (n, c)) : numP l = .ok (n, c) ∧ (n : Int) ≤ most ∧ n ≤ l.length - c := by
  unfold manyP at h
  split at h
  · cases h
  · rename_i n' c' hp
    split at h
    · cases h
    · split at h
      · cases h
      · injection h with h
        injection h with h1 h2
        subst h1 h2
        exact ⟨hp, by omega, by omega⟩
end Go.Proofs.Ytnmcbdppbpfegaa
