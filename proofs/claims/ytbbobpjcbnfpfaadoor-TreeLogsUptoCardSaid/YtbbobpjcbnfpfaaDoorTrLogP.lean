/- A log's frontier in plain words, over any function of digest: what Add makes of it, what its root is, that it is the root of all leaves; that a path shows its leaf, a growth its past. No condition. -/
import Derived.Test.YtbbobpjcbnfpfaaDoorTrOne
namespace Go.Proofs.YtbbobpjcbnfpfaaDoor
section
variable (hf : Bs → Bs)
/-- The frontier behind one leaf more: n: how many there were. -/
def addF (n : Nat) (front : List Bs) (d : Bs) : List Bs :=
  if n % 2 = 1 then addF (n / 2) front.dropLast (nodeH hf (front.getLast?.getD []) d) else front ++ [d]
termination_by n
decreasing_by omega
/-- The digest over a frontier's parts, from the last one down. -/
def foldF (d : Bs) : List Bs → Bs
  | [] => d
  | x :: l => foldF (nodeH hf x d) l
def logRoot (front : List Bs) : Bs :=
  match front.reverse with
  | [] => hf []
  | d :: l => foldF hf d l
/-- The frontier of n blocks of s leaves each, the last one first. -/
def rf (s n : Nat) (ls : List Bs) : List Bs :=
  if n = 0 then [] else if n % 2 = 1 then rootH hf (ls.drop ((n - 1) * s)) :: rf (2 * s) (n / 2) (ls.take ((n - 1) * s)) else rf (2 * s) (n / 2) ls
termination_by n
decreasing_by all_goals omega
def frontH (ls : List Bs) : List Bs := (rf hf 1 ls.length ls).reverse
end
/-- How many bits of n are 1. -/
def ones (n : Nat) : Nat := if n = 0 then 0 else n % 2 + ones (n / 2)
termination_by n
decreasing_by omega
section
variable {hf : Bs → Bs}
theorem rf_ones (n : Nat) : ∀ (s : Nat) (ls : List Bs), (rf hf s n ls).length = ones n := by
  induction n using Nat.strongRecOn with
  | ind n ih =>
    intro s ls
    rw [rf, ones]
    by_cases h0 : n = 0
    · rw [if_pos h0, if_pos h0]; rfl
    · rw [if_neg h0, if_neg h0]
      by_cases h1 : n % 2 = 1
      · rw [if_pos h1, List.length_cons, ih _ (by omega), h1]; omega
      · rw [if_neg h1, ih _ (by omega)]; omega
theorem ones_succ (n : Nat) (front : List Bs) : ∀ (d : Bs), front.length = ones n → (addF hf n front d).length = ones (n + 1) := by
  induction n using Nat.strongRecOn generalizing front with
  | ind n ih =>
    intro d h
    rw [addF]
    by_cases h1 : n % 2 = 1
    · rw [if_pos h1, ones, if_neg (by omega), show (n + 1) % 2 = 0 by omega, show (n + 1) / 2 = n / 2 + 1 by omega, Nat.zero_add]
      refine ih _ (by omega) _ _ ?_
      rw [List.length_dropLast, h, ones, if_neg (by omega), h1]
      omega
    · rw [if_neg h1, ones, if_neg (by omega), List.length_append, h, show (n + 1) % 2 = 1 by omega, show (n + 1) / 2 = n / 2 by omega]
      conv => lhs; rw [ones]
      split
      · rename_i h0
        subst h0
        simp [ones]
      · simp; omega
theorem root_pair (e : Nat) (A B : List Bs) (hA : A.length = 2 ^ e) (hB : 0 < B.length) (hBl : B.length ≤ 2 ^ e) : nodeH hf (rootH hf A) (rootH hf B) = rootH hf (A ++ B) := by
  have hp := Nat.two_pow_pos e
  have hh : half (A ++ B).length = 2 ^ e := half_eq _ e (by simp; omega) (by simp; omega)
  rw [rootH.eq_def hf (A ++ B), if_neg (by simp; omega), hh, List.take_left' hA, List.drop_left' hA]
theorem addF_rf (n : Nat) : ∀ (e : Nat) (ls B : List Bs), ls.length = n * 2 ^ e → B.length = 2 ^ e → addF hf n (rf hf (2 ^ e) n ls).reverse (rootH hf B) = (rf hf (2 ^ e) (n + 1) (ls ++ B)).reverse := by
  induction n using Nat.strongRecOn with
  | ind n ih =>
    intro e ls B hl hB
    have hp := Nat.two_pow_pos e
    rw [addF]
    by_cases h1 : n % 2 = 1
    · rw [if_pos h1]
      have hr : rf hf (2 ^ e) n ls = rootH hf (ls.drop ((n - 1) * 2 ^ e)) :: rf hf (2 * 2 ^ e) (n / 2) (ls.take ((n - 1) * 2 ^ e)) := by
        conv => lhs; rw [rf]
        rw [if_neg (by omega), if_pos h1]
      have hr2 : rf hf (2 ^ e) (n + 1) (ls ++ B) = rf hf (2 * 2 ^ e) (n / 2 + 1) (ls ++ B) := by
        conv => lhs; rw [rf]
        rw [if_neg (by omega), if_neg (by omega), show (n + 1) / 2 = n / 2 + 1 by omega]
      have hn1 : n = (n - 1) + 1 := by omega
      have hdl : (ls.drop ((n - 1) * 2 ^ e)).length = 2 ^ e := by
        rw [List.length_drop, hl]
        conv => lhs; rw [hn1, Nat.succ_mul]
        simp
      have hdt : (ls.take ((n - 1) * 2 ^ e)).length = n / 2 * 2 ^ (e + 1) := by
        rw [List.length_take, hl, Nat.min_eq_left (Nat.mul_le_mul_right _ (by omega)), Nat.pow_succ, show n - 1 = n / 2 * 2 by omega, Nat.mul_assoc, Nat.mul_comm 2]
      rw [hr, hr2, List.reverse_cons, List.dropLast_concat, List.getLast?_concat, Option.getD_some, root_pair e _ _ hdl (by omega) (by omega)]
      have h := ih (n / 2) (by omega) (e + 1) (ls.take ((n - 1) * 2 ^ e)) (ls.drop ((n - 1) * 2 ^ e) ++ B) hdt (by rw [List.length_append, hdl, hB, Nat.pow_succ]; omega)
      rw [← List.append_assoc, List.take_append_drop] at h
      rw [Nat.pow_succ, Nat.mul_comm (2 ^ e) 2] at h
      exact h
    · rw [if_neg h1]
      have hr2 : rf hf (2 ^ e) (n + 1) (ls ++ B) = rootH hf B :: rf hf (2 * 2 ^ e) (n / 2) ls := by
        conv => lhs; rw [rf]
        rw [if_neg (by omega), if_pos (by omega), show n + 1 - 1 = n by omega, List.drop_left' hl, List.take_left' hl, show (n + 1) / 2 = n / 2 by omega]
      have hr : rf hf (2 ^ e) n ls = rf hf (2 * 2 ^ e) (n / 2) ls := by
        conv => lhs; rw [rf]
        by_cases h0 : n = 0
        · rw [if_pos h0]; subst h0
          conv => rhs; rw [rf]
          rfl
        · rw [if_neg h0, if_neg h1]
      rw [hr, hr2, List.reverse_cons]
theorem addF_front (ls : List Bs) (d : Bs) : addF hf ls.length (frontH hf ls) (leafH hf d) = frontH hf (ls ++ [d]) := by
  have h := addF_rf (hf := hf) ls.length 0 ls [d] (by simp) rfl
  have hr : rootH hf [d] = leafH hf d := by rw [rootH]; rfl
  rw [hr] at h
  simpa [frontH] using h
theorem foldF_rf (n : Nat) : ∀ (e : Nat) (ls T : List Bs), ls.length = n * 2 ^ e → 0 < T.length → T.length ≤ 2 ^ e → foldF hf (rootH hf T) (rf hf (2 ^ e) n ls) = rootH hf (ls ++ T) := by
  induction n using Nat.strongRecOn with
  | ind n ih =>
    intro e ls T hl h0 hT
    rw [rf]
    by_cases hn : n = 0
    · rw [if_pos hn]
      subst hn
      have : ls = [] := List.eq_nil_of_length_eq_zero (by simpa using hl)
      subst this
      rfl
    · rw [if_neg hn]
      by_cases h1 : n % 2 = 1
      · rw [if_pos h1, foldF]
        have hn1 : n = (n - 1) + 1 := by omega
        have hdl : (ls.drop ((n - 1) * 2 ^ e)).length = 2 ^ e := by
          rw [List.length_drop, hl]
          conv => lhs; rw [hn1, Nat.succ_mul]
          simp
        have hdt : (ls.take ((n - 1) * 2 ^ e)).length = n / 2 * 2 ^ (e + 1) := by
          rw [List.length_take, hl, Nat.min_eq_left (Nat.mul_le_mul_right _ (by omega)), Nat.pow_succ, show n - 1 = n / 2 * 2 by omega, Nat.mul_assoc, Nat.mul_comm 2]
        rw [root_pair e _ _ hdl h0 hT]
        have h := ih (n / 2) (by omega) (e + 1) (ls.take ((n - 1) * 2 ^ e)) (ls.drop ((n - 1) * 2 ^ e) ++ T) hdt (by simp; omega) (by rw [List.length_append, hdl, Nat.pow_succ]; omega)
        rw [← List.append_assoc, List.take_append_drop] at h
        rw [Nat.pow_succ, Nat.mul_comm (2 ^ e) 2] at h
        exact h
      · rw [if_neg h1]
        have h := ih (n / 2) (by omega) (e + 1) ls T (by rw [hl, Nat.pow_succ, Nat.mul_comm (2 ^ e) 2, ← Nat.mul_assoc]; congr 1; omega) h0 (by rw [Nat.pow_succ]; omega)
        rw [Nat.pow_succ, Nat.mul_comm (2 ^ e) 2] at h
        exact h
theorem fold_rf (n : Nat) : ∀ (e : Nat) (ls : List Bs), 0 < n → ls.length = n * 2 ^ e → ∃ d l, rf hf (2 ^ e) n ls = d :: l ∧ foldF hf d l = rootH hf ls := by
  induction n using Nat.strongRecOn with
  | ind n ih =>
    intro e ls hn hl
    have hp := Nat.two_pow_pos e
    rw [rf, if_neg (by omega)]
    by_cases h1 : n % 2 = 1
    · rw [if_pos h1]
      refine ⟨_, _, rfl, ?_⟩
      have hn1 : n = (n - 1) + 1 := by omega
      have hdl : (ls.drop ((n - 1) * 2 ^ e)).length = 2 ^ e := by
        rw [List.length_drop, hl]
        conv => lhs; rw [hn1, Nat.succ_mul]
        simp
      have hdt : (ls.take ((n - 1) * 2 ^ e)).length = n / 2 * 2 ^ (e + 1) := by
        rw [List.length_take, hl, Nat.min_eq_left (Nat.mul_le_mul_right _ (by omega)), Nat.pow_succ, show n - 1 = n / 2 * 2 by omega, Nat.mul_assoc, Nat.mul_comm 2]
      have h := foldF_rf (hf := hf) (n / 2) (e + 1) (ls.take ((n - 1) * 2 ^ e)) (ls.drop ((n - 1) * 2 ^ e)) hdt (by omega) (by rw [hdl, Nat.pow_succ]; omega)
      rw [List.take_append_drop] at h
      rw [Nat.pow_succ, Nat.mul_comm (2 ^ e) 2] at h
      exact h
    · rw [if_neg h1]
      have h := ih (n / 2) (by omega) (e + 1) ls (by omega) (by rw [hl, Nat.pow_succ, Nat.mul_comm (2 ^ e) 2, ← Nat.mul_assoc]; congr 1; omega)
      rw [Nat.pow_succ, Nat.mul_comm (2 ^ e) 2] at h
      exact h
theorem logRoot_front (ls : List Bs) : logRoot hf (frontH hf ls) = rootH hf ls := by
  unfold logRoot frontH
  rw [List.reverse_reverse]
  cases ls with
  | nil =>
    have h0 : rf hf 1 ([] : List Bs).length [] = [] := by rw [rf]; rfl
    rw [rootH, h0]; rfl
  | cons x l =>
    obtain ⟨d, r, h1, h2⟩ := fold_rf (hf := hf) (x :: l).length 0 (x :: l) (by simp) (by simp)
    rw [Nat.pow_zero] at h1
    rw [h1]
    exact h2
/-- A leaf's path has as many digests as it should, and leads to the root. -/
theorem path_true (n : Nat) : ∀ (ls : List Bs) (i : Nat), ls.length = n → i < n → (pathH hf ls i).length = (sides n i).length ∧ climb hf (leafH hf (ls[i]?.getD [])) ((sides n i).zip (pathH hf ls i)) = rootH hf ls := by
  induction n using Nat.strongRecOn with
  | ind n ih =>
    intro ls i hl hi
    rw [pathH, sides, rootH.eq_def hf ls, hl]
    by_cases h1 : n ≤ 1
    · rw [if_pos h1, if_pos h1, if_pos h1]
      match ls, hl with
      | [], hl => simp at hl; omega
      | [x], _ =>
        have : i = 0 := by omega
        subst this
        simp [climb]
      | _ :: _ :: _, hl => simp at hl; omega
    · rw [if_neg h1, if_neg h1, if_neg h1]
      have hlt := half_lt n (by omega)
      have hp := half_pos n
      by_cases h3 : i < half n
      · rw [if_pos h3, if_pos h3]
        obtain ⟨e1, e2⟩ := ih _ hlt (ls.take (half n)) i (by simp; omega) h3
        refine ⟨by simp [e1], ?_⟩
        rw [zip_snoc _ _ _ (by simp) (by simp [e1]), climb_snoc]
        simp only [List.dropLast_concat, List.getLast?_concat, Option.getD_some, if_true]
        rw [List.getElem?_take_of_lt h3] at e2
        rw [e2]
      · rw [if_neg h3, if_neg h3]
        obtain ⟨e1, e2⟩ := ih (n - half n) (by omega) (ls.drop (half n)) (i - half n) (by simp; omega) (by omega)
        refine ⟨by simp [e1], ?_⟩
        rw [zip_snoc _ _ _ (by simp) (by simp [e1]), climb_snoc]
        simp only [List.dropLast_concat, List.getLast?_concat, Option.getD_some, Bool.false_eq_true, if_false]
        rw [List.getElem?_drop, show half n + (i - half n) = i by omega] at e2
        rw [e2]
/-- A growth has as many digests as it should, and leads to the old root and the new one. -/
theorem grow_true (n : Nat) : ∀ (ls : List Bs) (m : Nat) (w : Bool) (was : Bs), ls.length = n → 0 < m → m ≤ n → (w = true → was = rootH hf (ls.take m)) →
    (growH hf ls m w).length = long m n w ∧ (comesH hf m n w was (growH hf ls m w)).1 = rootH hf (ls.take m) ∧ (comesH hf m n w was (growH hf ls m w)).2.1 = rootH hf ls := by
  induction n using Nat.strongRecOn with
  | ind n ih =>
    intro ls m w was hl hm hmn hw
    rw [growH, long, comesH, hl]
    by_cases h1 : n ≤ 1 ∨ m = n
    · have hmn' : m = n := by omega
      subst hmn'
      rw [if_pos (Or.inr rfl), if_pos (Or.inr rfl), if_pos (Or.inr rfl)]
      rw [List.take_of_length_le (by omega)] at hw ⊢
      cases w
      · simp
      · simp [hw rfl]
    · rw [if_neg h1, if_neg h1, if_neg h1]
      have hlt := half_lt n (by omega)
      have hge := half_ge n (by omega)
      have hp := half_pos n
      have hroot : rootH hf ls = nodeH hf (rootH hf (ls.take (half n))) (rootH hf (ls.drop (half n))) := by
        rw [rootH.eq_def hf ls, if_neg (by omega), hl]
      by_cases h3 : m ≤ half n
      · simp only [if_pos h3]
        obtain ⟨e1, e2, e3⟩ := ih _ hlt (ls.take (half n)) m w was (by simp; omega) hm h3 (by rw [List.take_take, Nat.min_eq_left h3]; exact hw)
        simp only [List.dropLast_concat, List.getLast?_concat, Option.getD_some]
        refine ⟨by simp [e1], ?_, ?_⟩
        · rw [e2, List.take_take, Nat.min_eq_left h3]
        · rw [e3, hroot]; rfl
      · simp only [if_neg h3]
        obtain ⟨e1, e2, e3⟩ := ih (n - half n) (by omega) (ls.drop (half n)) (m - half n) false was (by simp; omega) (by omega) (by omega) (fun h => by cases h)
        simp only [List.dropLast_concat, List.getLast?_concat, Option.getD_some]
        refine ⟨by simp [e1], ?_, ?_⟩
        · rw [e2]
          rw [rootH.eq_def hf (ls.take m)]
          have hk : half m = half n := half_same m n (by omega) hmn (by omega)
          have hml : (ls.take m).length = m := by simp; omega
          rw [hml, if_neg (by omega), hk, List.take_take, Nat.min_eq_left (by omega), List.drop_take]
          rfl
        · rw [e3, hroot]; rfl
end
end Go.Proofs.YtbbobpjcbnfpfaaDoor
