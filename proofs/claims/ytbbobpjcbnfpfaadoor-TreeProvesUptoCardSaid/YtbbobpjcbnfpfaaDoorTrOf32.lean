/- What Path and Growth answer: digests, and few. No condition. -/
import Derived.Test.YtbbobpjcbnfpfaaDoorTrPath
import Derived.Test.YtbbobpjcbnfpfaaDoorTrOne
namespace Go.Proofs.YtbbobpjcbnfpfaaDoor
open Go.RowKit
theorem pathH_32 {hf : Bs → Bs} (hlen : ∀ d, (hf d).length = 32) (n : Nat) : ∀ (ls : List Bs) (i : Nat), ls.length ≤ n → All32 (pathH hf ls i) := by
  induction n with
  | zero => intro ls i h; rw [pathH.eq_def, if_pos (by omega)]; intro x hx; cases hx
  | succ n ih =>
    intro ls i h
    rw [pathH.eq_def]
    by_cases h1 : ls.length ≤ 1
    · rw [if_pos h1]; intro x hx; cases hx
    · rw [if_neg h1]
      have hlt := half_lt ls.length (by omega)
      have hp := half_pos ls.length
      split
      · intro x hx
        rcases List.mem_append.1 hx with hx | hx
        · exact ih _ _ (by simp; omega) x hx
        · rw [List.mem_singleton.1 hx]; exact rootH_len hlen _
      · intro x hx
        rcases List.mem_append.1 hx with hx | hx
        · exact ih _ _ (by simp; omega) x hx
        · rw [List.mem_singleton.1 hx]; exact rootH_len hlen _
theorem growH_32 {hf : Bs → Bs} (hlen : ∀ d, (hf d).length = 32) (n : Nat) : ∀ (ls : List Bs) (m : Nat) (w : Bool), ls.length ≤ n → All32 (growH hf ls m w) := by
  have hbase : ∀ (ls : List Bs) (w : Bool), All32 (if w = true then [] else [rootH hf ls]) := by
    intro ls w x hx
    split at hx
    · cases hx
    · rw [List.mem_singleton.1 hx]; exact rootH_len hlen _
  induction n with
  | zero => intro ls m w h; rw [growH.eq_def, if_pos (Or.inl (by omega))]; exact hbase ls w
  | succ n ih =>
    intro ls m w h
    rw [growH.eq_def]
    by_cases h1 : ls.length ≤ 1 ∨ m = ls.length
    · rw [if_pos h1]; exact hbase ls w
    · rw [if_neg h1]
      have hlt := half_lt ls.length (by omega)
      have hp := half_pos ls.length
      split
      · intro x hx
        rcases List.mem_append.1 hx with hx | hx
        · exact ih _ _ _ (by simp; omega) x hx
        · rw [List.mem_singleton.1 hx]; exact rootH_len hlen _
      · intro x hx
        rcases List.mem_append.1 hx with hx | hx
        · exact ih _ _ _ (by simp; omega) x hx
        · rw [List.mem_singleton.1 hx]; exact rootH_len hlen _
theorem pathOf_32 {hf : Bs → Bs} (hlen : ∀ d, (hf d).length = 32) (ls : List Bs) (i : Int) : All32 (pathOf hf ls i) := by
  unfold pathOf
  split
  · intro x hx; cases hx
  · exact pathH_32 hlen _ _ _ (Nat.le_refl _)
theorem growOf_32 {hf : Bs → Bs} (hlen : ∀ d, (hf d).length = 32) (ls : List Bs) (i : Int) : All32 (growOf hf ls i) := by
  unfold growOf
  split
  · intro x hx; cases hx
  · exact growH_32 hlen _ _ _ _ (Nat.le_refl _)
theorem pathOf_len {hf : Bs → Bs} (ls : List Bs) (i : Int) (h : ls.length ≤ 1048576) : (pathOf hf ls i).length ≤ 1073741824 := by
  unfold pathOf
  split
  · simp
  · have := pathH_len_le (hf := hf) _ ls i.toNat (Nat.le_refl _); omega
theorem growOf_len {hf : Bs → Bs} (ls : List Bs) (i : Int) (h : ls.length ≤ 1048576) : (growOf hf ls i).length ≤ 1073741824 := by
  unfold growOf
  split
  · simp
  · have := growH_len_le (hf := hf) _ ls i.toNat true (Nat.le_refl _); omega
theorem own_rdD {w : World} {B n c : Nat} {p : Option Addr} {l : List Bs} (h : OwnD w B (.slice p n c) l) : n = l.length ∧ RdD w p c l := by
  obtain ⟨p', c', e, hr, _⟩ := h.rd
  injection e with e1 e0 e2
  subst e1 e2
  exact ⟨e0, hr⟩
end Go.Proofs.YtbbobpjcbnfpfaaDoor
