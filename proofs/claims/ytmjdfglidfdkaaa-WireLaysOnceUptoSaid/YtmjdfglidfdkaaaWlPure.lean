/- WireLaysOnce, in plain words: a writer behind some numbers. No program in sight. No condition. -/
import Derived.Test.YtmjdfglidfdkaaaWrPure
namespace Go.Proofs.Ytmjdfglidfdkaaa
open Go.RowKit
def numsW (W : Wr) (l : List Int) : Wr := l.foldl Wr.number W
theorem numsW_succ (W : Wr) (l : List Int) (n : Nat) (x : Int) (h : l[n]? = some x) : numsW W (l.take (n + 1)) = (numsW W (l.take n)).number x := by
  unfold numsW
  rw [List.take_add_one, h, List.foldl_append]
  rfl
/-- Is one below 0? -/
def neg (l : List Int) : Bool := l.any (fun x => decide (x < 0))
theorem neg_succ (l : List Int) (n : Nat) (x : Int) (h : l[n]? = some x) : neg (l.take (n + 1)) = (neg (l.take n) || decide (x < 0)) := by
  unfold neg
  rw [List.take_add_one, h, List.any_append]
  simp
theorem numsW_ok {W : Wr} (h : W.b.length ≤ 4194304) : ∀ l : List Int, (numsW W l).b.length ≤ 4194304 := by
  intro l
  unfold numsW
  induction l generalizing W with
  | nil => exact h
  | cons x l ih => exact ih ((Wr.Ok.mk h).number x).len
/-- A writer behind c numbers, of which one was below 0, or not. -/
structure Clean (W : Wr) (f : Bool) (c : Nat) : Prop where
  e : W.e = if f then 32 else 0
  len : W.b.length ≤ 9 * c
theorem Clean.number {W : Wr} {f : Bool} {c : Nat} (h : Clean W f c) (hc : c < 466000) (x : Int) : Clean (W.number x) (f || decide (x < 0)) (c + 1) := by
  have hl := h.len
  have he := h.e
  unfold Wr.number Wr.lay
  cases f with
  | true =>
    have he' : W.e = 32 := he
    have h0 : W.e ≠ 0 := by omega
    by_cases hx : x < 0
    · rw [if_pos hx, if_neg h0]
      exact ⟨by simpa using he', by omega⟩
    · rw [if_neg hx, if_pos h0]
      exact ⟨by simpa using he', by omega⟩
  | false =>
    have he' : W.e = 0 := he
    by_cases hx : x < 0
    · rw [if_pos hx, if_pos he']
      exact ⟨by simp [hx], by show W.b.length ≤ _; omega⟩
    · have hf := form_length x.toNat
      rw [if_neg hx, if_neg (by simp [he']), if_neg (by omega)]
      exact ⟨by simp [hx, he'], by show (W.b ++ form x.toNat).length ≤ _; rw [List.length_append]; omega⟩
theorem Clean.nums : ∀ (l : List Int) {W : Wr} {f : Bool} {c : Nat}, Clean W f c → c + l.length ≤ 466000 → Clean (numsW W l) (f || neg l) (c + l.length)
  | [], _, f, _, h, _ => by simpa [numsW, neg] using h
  | x :: l, W, f, c, h, hc => by
    have hc' : c + l.length + 1 ≤ 466000 := by simpa [Nat.add_assoc] using hc
    have h2 := Clean.nums l (h.number (by omega) x) (by omega)
    have e1 : (f || neg (x :: l)) = ((f || decide (x < 0)) || neg l) := by simp [neg, Bool.or_assoc]
    rw [e1, show c + (x :: l).length = c + 1 + l.length by simp; omega]
    exact h2
theorem clean_all (ah l : List Int) (h : l.length + ah.length ≤ 400000) (m : Nat) (hm : m ≤ l.length) : Clean (numsW ((numsW ⟨[], 0⟩ ah).number l.length) (l.take m)) (neg ah || neg (l.take m)) (ah.length + 1 + m) := by
  have h0 : Clean ⟨[], 0⟩ false 0 := ⟨rfl, by simp⟩
  have h1 := Clean.nums ah h0 (by omega)
  rw [Bool.false_or, Nat.zero_add] at h1
  have h2 := h1.number (by omega) (l.length : Int)
  have h3 := Clean.nums (l.take m) h2 (by rw [List.length_take_of_le hm]; omega)
  have e1 : decide ((l.length : Int) < 0) = false := by simp
  rw [e1, Bool.or_false, List.length_take_of_le hm] at h3
  exact h3
/-- Two that stop at the first fault stop at one place. -/
theorem stop_same {l : List Int} {E F : Nat → Prop} (n i : Nat) (hn : n ≤ l.length) (hi : i ≤ l.length) (h1 : n = l.length ∨ E n) (h2 : ∀ m, m < n → ¬ E m) (h3 : i = l.length ∨ F i) (h4 : ∀ m, m < i → ¬ F m) (hEF : ∀ m, m ≤ l.length → (E m ↔ F m)) : n = i := by
  rcases Nat.lt_trichotomy n i with h | h | h
  · rcases h1 with h1 | h1
    · omega
    · exact absurd ((hEF n hn).1 h1) (h4 n h)
  · exact h
  · rcases h3 with h3 | h3
    · omega
    · exact absurd ((hEF i hi).2 h3) (h2 i h)
end Go.Proofs.Ytmjdfglidfdkaaa
