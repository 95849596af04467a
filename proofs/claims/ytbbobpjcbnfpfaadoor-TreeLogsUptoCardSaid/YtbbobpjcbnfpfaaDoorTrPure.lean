/- The tree of the document in plain words, over any function of digest: roots, paths, growths, and what a path leads to. No condition. -/
import Derived.Test.YtbbobpjcbnfpfaaDoorMem
namespace Go.Proofs.YtbbobpjcbnfpfaaDoor
abbrev Bs := List UInt8
/-- The greatest power of two below n. -/
def half (n : Nat) : Nat := 2 ^ Nat.log2 (n - 1)
theorem half_pos (n : Nat) : 0 < half n := Nat.two_pow_pos _
theorem half_lt (n : Nat) (h : 1 < n) : half n < n := by
  have := Nat.log2_self_le (show n - 1 ≠ 0 by omega)
  unfold half; omega
theorem half_ge (n : Nat) (h : 1 < n) : n ≤ 2 * half n := by
  have := Nat.lt_log2_self (n := n - 1)
  unfold half
  rw [Nat.pow_succ] at this
  omega
theorem half_eq (n e : Nat) (h1 : 2 ^ e < n) (h2 : n ≤ 2 * 2 ^ e) : half n = 2 ^ e := by
  unfold half
  congr 1
  exact (Nat.log2_eq_iff (by omega)).2 ⟨by omega, by rw [Nat.pow_succ]; omega⟩
/-- Between a half and its double the half is the same. -/
theorem half_same (m n : Nat) (h : half n < m) (hm : m ≤ n) (hn : 1 < n) : half m = half n := by
  have := half_ge n hn
  exact half_eq m _ h (by unfold half at this; omega)
section
variable (hf : Bs → Bs)
def leafH (d : Bs) : Bs := hf (0 :: d)
def nodeH (l r : Bs) : Bs := hf (1 :: (l ++ r))
def rootH (ls : List Bs) : Bs :=
  if ls.length ≤ 1 then (match ls with
    | [] => hf []
    | x :: _ => leafH hf x)
  else nodeH hf (rootH (ls.take (half ls.length))) (rootH (ls.drop (half ls.length)))
termination_by ls.length
decreasing_by
  · have := half_lt ls.length (by omega); simp; omega
  · have := half_pos ls.length; simp; omega
def pathH (ls : List Bs) (i : Nat) : List Bs :=
  if ls.length ≤ 1 then []
  else if i < half ls.length then pathH (ls.take (half ls.length)) i ++ [rootH hf (ls.drop (half ls.length))]
  else pathH (ls.drop (half ls.length)) (i - half ls.length) ++ [rootH hf (ls.take (half ls.length))]
termination_by ls.length
decreasing_by
  · have := half_lt ls.length (by omega); simp; omega
  · have := half_pos ls.length; simp; omega
def growH (ls : List Bs) (m : Nat) (w : Bool) : List Bs :=
  if ls.length ≤ 1 ∨ m = ls.length then (if w then [] else [rootH hf ls])
  else if m ≤ half ls.length then growH (ls.take (half ls.length)) m w ++ [rootH hf (ls.drop (half ls.length))]
  else growH (ls.drop (half ls.length)) (m - half ls.length) false ++ [rootH hf (ls.take (half ls.length))]
termination_by ls.length
decreasing_by
  · have := half_lt ls.length (by omega); simp; omega
  · have := half_pos ls.length; simp; omega
/-- What a path leads to, from the leaf up: (does the other one stand on the right?, the other one). -/
def climb : Bs → List (Bool × Bs) → Bs
  | d, [] => d
  | d, (r, p) :: l => climb (if r then nodeH hf d p else nodeH hf p d) l
/-- The texts that are digested, from the leaf up. -/
def textsT : Bs → List (Bool × Bs) → List Bs
  | t, [] => [t]
  | t, (r, p) :: l => t :: textsT (if r then 1 :: (hf t ++ p) else 1 :: (p ++ hf t)) l
/-- The root that a leaf and a path lead to, read from the top. -/
def shownH (size i : Nat) (lf : Bs) (path : List Bs) : Option Bs :=
  if size ≤ 1 then (if path = [] then some lf else none)
  else if path = [] then none
  else if i < half size then (shownH (half size) i lf path.dropLast).map (fun b => nodeH hf b (path.getLast?.getD []))
  else (shownH (size - half size) (i - half size) lf path.dropLast).map (fun b => nodeH hf (path.getLast?.getD []) b)
termination_by size
decreasing_by
  · exact half_lt size (by omega)
  · have := half_pos size; omega
/-- The old root and the new one to which a growth leads. -/
def grownH (m n : Nat) (was : Bs) (w : Bool) (path : List Bs) : Option (Bs × Bs) :=
  if n ≤ 1 ∨ m = n then (if w then (if path = [] then some (was, was) else none) else (if path.length = 1 then some (path.getLast?.getD [], path.getLast?.getD []) else none))
  else if path = [] then none
  else if m ≤ half n then (grownH m (half n) was w path.dropLast).map (fun c => (c.1, nodeH hf c.2 (path.getLast?.getD [])))
  else (grownH (m - half n) (n - half n) was false path.dropLast).map (fun c => (nodeH hf (path.getLast?.getD []) c.1, nodeH hf (path.getLast?.getD []) c.2))
termination_by n
decreasing_by
  · exact half_lt n (by omega)
  · have := half_pos n; omega
end
def sides (size i : Nat) : List Bool :=
  if size ≤ 1 then []
  else if i < half size then sides (half size) i ++ [true]
  else sides (size - half size) (i - half size) ++ [false]
termination_by size
decreasing_by
  · exact half_lt size (by omega)
  · have := half_pos size; omega
/-- How many digests a growth has. -/
def long (m n : Nat) (w : Bool) : Nat :=
  if n ≤ 1 ∨ m = n then (if w then 0 else 1)
  else if m ≤ half n then long m (half n) w + 1
  else long (m - half n) (n - half n) false + 1
termination_by n
decreasing_by
  · exact half_lt n (by omega)
  · have := half_pos n; omega

section
variable {hf : Bs → Bs}
theorem climb_snoc (d : Bs) (l : List (Bool × Bs)) (r : Bool) (p : Bs) : climb hf d (l ++ [(r, p)]) = if r then nodeH hf (climb hf d l) p else nodeH hf p (climb hf d l) := by
  induction l generalizing d with
  | nil => cases r <;> rfl
  | cons x l ih => obtain ⟨r', p'⟩ := x; exact ih _
theorem textsT_ne (t : Bs) (l : List (Bool × Bs)) : textsT hf t l ≠ [] := by
  cases l with
  | nil => simp [textsT]
  | cons x l => obtain ⟨r, p⟩ := x; simp [textsT]
theorem textsT_length (t : Bs) (l : List (Bool × Bs)) : (textsT hf t l).length = l.length + 1 := by
  induction l generalizing t with
  | nil => rfl
  | cons x l ih => obtain ⟨r, p⟩ := x; simp [textsT, ih]
theorem textsT_last (t : Bs) (l : List (Bool × Bs)) : hf ((textsT hf t l).getLast?.getD []) = climb hf (hf t) l := by
  induction l generalizing t with
  | nil => rfl
  | cons x l ih =>
    obtain ⟨r, p⟩ := x
    have hne := textsT_ne (hf := hf) (if r then 1 :: (hf t ++ p) else 1 :: (p ++ hf t)) l
    simp only [textsT, climb]
    rw [List.getLast?_cons_of_ne_nil hne, ih]
    cases r <;> rfl
/-- One text more. -/
theorem textsT_snoc (t : Bs) (l : List (Bool × Bs)) (r : Bool) (p : Bs) : textsT hf t (l ++ [(r, p)]) = textsT hf t l ++ [if r then 1 :: (climb hf (hf t) l ++ p) else 1 :: (p ++ climb hf (hf t) l)] := by
  induction l generalizing t with
  | nil => cases r <;> rfl
  | cons x l ih =>
    obtain ⟨r', p'⟩ := x
    simp only [textsT, List.cons_append, climb, ih]
    cases r' <;> rfl
theorem zip_snoc (s : List Bool) (r : Bool) (p : List Bs) (h : p ≠ []) (hl : p.length = s.length + 1) : (s ++ [r]).zip p = s.zip p.dropLast ++ [(r, p.getLast?.getD [])] := by
  obtain ⟨q, x, rfl⟩ : ∃ q x, p = q ++ [x] := ⟨p.dropLast, p.getLast h, (List.dropLast_concat_getLast h).symm⟩
  simp at hl
  rw [List.zip_append (by omega)]
  simp
theorem shownH_eq (size : Nat) : ∀ (i : Nat) (lf : Bs) (path : List Bs), shownH hf size i lf path = if path.length = (sides size i).length then some (climb hf lf ((sides size i).zip path)) else none := by
  induction size using Nat.strongRecOn with
  | ind size ih =>
    intro i lf path
    rw [shownH, sides]
    by_cases h1 : size ≤ 1
    · rw [if_pos h1, if_pos h1]
      by_cases h2 : path = []
      · subst h2; simp [climb]
      · rw [if_neg h2, if_neg (by simpa using h2)]
    · rw [if_neg h1, if_neg h1]
      by_cases h2 : path = []
      · subst h2
        rw [if_pos rfl]
        by_cases h3 : i < half size
        · rw [if_pos h3, if_neg (by simp)]
        · rw [if_neg h3, if_neg (by simp)]
      · rw [if_neg h2]
        have hp : 0 < path.length := by cases path with
          | nil => exact absurd rfl h2
          | cons x l => simp
        by_cases h3 : i < half size
        · rw [if_pos h3, if_pos h3, ih _ (half_lt _ (by omega)), List.length_dropLast]
          by_cases h4 : path.length = (sides (half size) i).length + 1
          · rw [if_pos (by omega), if_pos (by simpa using h4), zip_snoc _ _ _ h2 h4, climb_snoc]; rfl
          · rw [if_neg (by omega), if_neg (by simpa using h4)]; rfl
        · rw [if_neg h3, if_neg h3, ih _ (by have := half_pos size; omega), List.length_dropLast]
          by_cases h4 : path.length = (sides (size - half size) (i - half size)).length + 1
          · rw [if_pos (by omega), if_pos (by simpa using h4), zip_snoc _ _ _ h2 h4, climb_snoc]; rfl
          · rw [if_neg (by omega), if_neg (by simpa using h4)]; rfl
theorem pow_lt_half (n e : Nat) (hn : 1 < n) (h : n ≤ 2 ^ e) : ∃ f, e = f + 1 ∧ half n ≤ 2 ^ f ∧ n - half n ≤ 2 ^ f := by
  cases e with
  | zero => simp at h; omega
  | succ f =>
    refine ⟨f, rfl, ?_⟩
    have h1 := half_lt n hn
    have h2 := half_ge n hn
    have h3 : half n ≤ 2 ^ f := by
      unfold half at h1 ⊢
      apply Nat.pow_le_pow_right (by omega)
      have : (2 : Nat) ^ Nat.log2 (n - 1) < 2 ^ (f + 1) := by omega
      have := (Nat.pow_lt_pow_iff_right (by omega : 1 < 2)).1 this
      omega
    rw [Nat.pow_succ] at h
    exact ⟨h3, by omega⟩
theorem sides_length (e : Nat) : ∀ (n i : Nat), n ≤ 2 ^ e → (sides n i).length ≤ e := by
  induction e with
  | zero => intro n i h; rw [sides, if_pos (by simpa using h)]; simp
  | succ e ih =>
    intro n i h
    rw [sides]
    by_cases h1 : n ≤ 1
    · rw [if_pos h1]; simp
    · rw [if_neg h1]
      obtain ⟨f, hf, h2, h3⟩ := pow_lt_half n (e + 1) (by omega) h
      obtain rfl : e = f := by omega
      split
      · simpa using ih _ _ h2
      · simpa using ih _ _ h3
theorem long_le (e : Nat) : ∀ (m n : Nat) (w : Bool), n ≤ 2 ^ e → long m n w ≤ e + 1 := by
  induction e with
  | zero => intro m n w h; rw [long, if_pos (.inl (by simpa using h))]; split <;> omega
  | succ e ih =>
    intro m n w h
    rw [long]
    by_cases h1 : n ≤ 1 ∨ m = n
    · rw [if_pos h1]; split <;> omega
    · rw [if_neg h1]
      obtain ⟨f, hf, h2, h3⟩ := pow_lt_half n (e + 1) (by omega) h
      obtain rfl : e = f := by omega
      split
      · have := ih m _ w h2; omega
      · have := ih (m - half n) _ false h3; omega
end
end Go.Proofs.YtbbobpjcbnfpfaaDoor
