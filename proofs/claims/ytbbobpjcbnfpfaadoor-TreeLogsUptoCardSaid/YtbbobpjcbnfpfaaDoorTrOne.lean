/- Two leaves at one place, a past that was not: two unlike texts of one digest. Plain words over any function of digest whose digests have 32 bytes. -/
import Derived.Test.YtbbobpjcbnfpfaaDoorTrPure
namespace Go.Proofs.YtbbobpjcbnfpfaaDoor
section
variable {hf : Bs → Bs}
/-- Two unlike texts of one digest stand among these. -/
def Clash (hf : Bs → Bs) (T : List Bs) : Prop := ∃ a ∈ T, ∃ b ∈ T, a ≠ b ∧ hf a = hf b
theorem Clash.mono {T T' : List Bs} (h : Clash hf T) (hs : ∀ x ∈ T, x ∈ T') : Clash hf T' := by
  obtain ⟨a, ha, b, hb, h1, h2⟩ := h
  exact ⟨a, hs a ha, b, hs b hb, h1, h2⟩
def All32 (l : List Bs) : Prop := ∀ x ∈ l, x.length = 32
theorem climb_length (hlen : ∀ d, (hf d).length = 32) (l : List (Bool × Bs)) : ∀ d : Bs, d.length = 32 → (climb hf d l).length = 32 := by
  induction l with
  | nil => intro d hd; exact hd
  | cons x l ih =>
    obtain ⟨r, p⟩ := x
    intro d _
    rw [climb]
    apply ih
    split <;> exact hlen _
theorem node_inj {r : Bool} {a b x y : Bs} (ha : a.length = 32) (hb : b.length = 32) (hx : x.length = 32) (hy : y.length = 32) (h : (if r then 1 :: (a ++ x) else 1 :: (x ++ a) : Bs) = (if r then 1 :: (b ++ y) else 1 :: (y ++ b))) : a = b ∧ x = y := by
  cases r
  · simp only [Bool.false_eq_true, if_false, List.cons.injEq, true_and] at h
    obtain ⟨h1, h2⟩ := List.append_inj h (by omega)
    exact ⟨h2, h1⟩
  · simp only [if_true, List.cons.injEq, true_and] at h
    exact List.append_inj h (by omega)
theorem one_leaf (hlen : ∀ d, (hf d).length = 32) (s : List Bool) : ∀ (p q : List Bs) (t u : Bs), p.length = s.length → q.length = s.length → All32 p → All32 q → t ≠ u →
    climb hf (hf t) (s.zip p) = climb hf (hf u) (s.zip q) → Clash hf (textsT hf t (s.zip p) ++ textsT hf u (s.zip q)) := by
  induction s with
  | nil =>
    intro p q t u _ _ _ _ hne h
    simp only [List.zip_nil_left, climb] at h
    exact ⟨t, by simp [textsT], u, by simp [textsT], hne, h⟩
  | cons r s ih =>
    intro p q t u hp hq ap aq hne h
    match p, hp, q, hq with
    | x :: p, hp, y :: q, hq =>
      simp only [List.zip_cons_cons, climb, textsT] at h ⊢
      have e1 : ∀ (t x : Bs), (if r then nodeH hf (hf t) x else nodeH hf x (hf t)) = hf (if r then 1 :: (hf t ++ x) else 1 :: (x ++ hf t)) := by intro t x; cases r <;> rfl
      rw [e1, e1] at h
      by_cases he : (if r then 1 :: (hf t ++ x) else 1 :: (x ++ hf t) : Bs) = (if r then 1 :: (hf u ++ y) else 1 :: (y ++ hf u))
      · obtain ⟨h1, _⟩ := node_inj (hlen t) (hlen u) (ap x (by simp)) (aq y (by simp)) he
        exact ⟨t, by simp, u, by simp, hne, h1⟩
      · refine (ih p q _ _ (by simpa using hp) (by simpa using hq) (fun z hz => ap z (by simp [hz])) (fun z hz => aq z (by simp [hz])) he h).mono ?_
        intro z hz
        rcases List.mem_append.1 hz with hz | hz
        · exact List.mem_append.2 (.inl (List.mem_cons_of_mem _ hz))
        · exact List.mem_append.2 (.inr (List.mem_cons_of_mem _ hz))
variable (hf)
/-- What a growth comes to: the old root, the new one, the texts that are digested for it. -/
def comesH (m n : Nat) (w : Bool) (was : Bs) (l : List Bs) : Bs × Bs × List Bs :=
  if n ≤ 1 ∨ m = n then (if w then (was, was, []) else (l.getLast?.getD [], l.getLast?.getD [], []))
  else if m ≤ half n then
    ((comesH m (half n) w was l.dropLast).1, hf (1 :: ((comesH m (half n) w was l.dropLast).2.1 ++ l.getLast?.getD [])), (comesH m (half n) w was l.dropLast).2.2 ++ [1 :: ((comesH m (half n) w was l.dropLast).2.1 ++ l.getLast?.getD [])])
  else
    (hf (1 :: (l.getLast?.getD [] ++ (comesH (m - half n) (n - half n) false was l.dropLast).1)), hf (1 :: (l.getLast?.getD [] ++ (comesH (m - half n) (n - half n) false was l.dropLast).2.1)),
      (comesH (m - half n) (n - half n) false was l.dropLast).2.2 ++ [1 :: (l.getLast?.getD [] ++ (comesH (m - half n) (n - half n) false was l.dropLast).1), 1 :: (l.getLast?.getD [] ++ (comesH (m - half n) (n - half n) false was l.dropLast).2.1)])
termination_by n
decreasing_by
  all_goals first | exact half_lt n (by omega) | (have := half_pos n; omega)
variable {hf}
theorem grownH_eq (n : Nat) : ∀ (m : Nat) (was : Bs) (w : Bool) (path : List Bs), grownH hf m n was w path = if path.length = long m n w then some ((comesH hf m n w was path).1, (comesH hf m n w was path).2.1) else none := by
  induction n using Nat.strongRecOn with
  | ind n ih =>
    intro m was w path
    rw [grownH, long, comesH]
    by_cases h1 : n ≤ 1 ∨ m = n
    · rw [if_pos h1, if_pos h1, if_pos h1]
      cases w
      · simp only [Bool.false_eq_true, if_false]
      · by_cases h2 : path = []
        · subst h2; simp
        · simp [h2]
    · rw [if_neg h1, if_neg h1, if_neg h1]
      by_cases h2 : path = []
      · subst h2
        rw [if_pos rfl]
        by_cases h3 : m ≤ half n
        · rw [if_pos h3, if_neg (by simp)]
        · rw [if_neg h3, if_neg (by simp)]
      · rw [if_neg h2]
        have hp : 0 < path.length := by cases path with
          | nil => exact absurd rfl h2
          | cons x l => simp
        by_cases h3 : m ≤ half n
        · simp only [if_pos h3]
          rw [ih _ (half_lt _ (by omega)), List.length_dropLast]
          by_cases h4 : path.length = long m (half n) w + 1
          · rw [if_pos (by omega), if_pos h4]; rfl
          · rw [if_neg (by omega), if_neg h4]; rfl
        · simp only [if_neg h3]
          rw [ih _ (by have := half_pos n; omega), List.length_dropLast]
          by_cases h4 : path.length = long (m - half n) (n - half n) false + 1
          · rw [if_pos (by omega), if_pos h4]; rfl
          · rw [if_neg (by omega), if_neg h4]; rfl
theorem All32.last {l : List Bs} (h : All32 l) (hne : l ≠ []) : (l.getLast?.getD []).length = 32 := by
  rw [List.getLast?_eq_some_getLast hne]
  exact h _ (List.getLast_mem hne)
theorem All32.dropLast {l : List Bs} (h : All32 l) : All32 l.dropLast := fun x hx => h x (List.dropLast_subset _ hx)
theorem comes_length (hlen : ∀ d, (hf d).length = 32) (n : Nat) : ∀ (m : Nat) (w : Bool) (was : Bs) (l : List Bs), was.length = 32 → All32 l → l.length = long m n w → (comesH hf m n w was l).1.length = 32 ∧ (comesH hf m n w was l).2.1.length = 32 := by
  induction n using Nat.strongRecOn with
  | ind n ih =>
    intro m w was l hw al hl
    rw [long] at hl
    rw [comesH]
    by_cases h1 : n ≤ 1 ∨ m = n
    · rw [if_pos h1] at hl ⊢
      cases w
      · have hne : l ≠ [] := by rintro rfl; simp at hl
        exact ⟨al.last hne, al.last hne⟩
      · exact ⟨hw, hw⟩
    · rw [if_neg h1] at hl ⊢
      by_cases h3 : m ≤ half n
      · rw [if_pos h3] at hl ⊢
        exact ⟨(ih _ (half_lt _ (by omega)) m w was _ hw al.dropLast (by simp; omega)).1, hlen _⟩
      · rw [if_neg h3] at hl ⊢
        exact ⟨hlen _, hlen _⟩
theorem snoc_of {p : List Bs} {k : Nat} (h : p.length = k + 1) : p ≠ [] ∧ p.dropLast.length = k := by
  refine ⟨?_, by simp [h]⟩
  rintro rfl
  simp at h
/-- The step at the top: either two texts clash there, or what stands below is the same. -/
theorem top_step (r : Bool) (c z x y : Bs) (hc : c.length = 32) (hz : z.length = 32) (hx : x.length = 32) (hy : y.length = 32) (h : hf (if r then 1 :: (c ++ z) else 1 :: (z ++ c)) = hf (if r then 1 :: (x ++ y) else 1 :: (y ++ x))) :
    Clash hf [if r then 1 :: (c ++ z) else 1 :: (z ++ c), if r then 1 :: (x ++ y) else 1 :: (y ++ x)] ∨ c = x ∧ z = y := by
  by_cases he : (if r then 1 :: (c ++ z) else 1 :: (z ++ c) : Bs) = (if r then 1 :: (x ++ y) else 1 :: (y ++ x))
  · exact .inr (node_inj hc hx hz hy he)
  · exact .inl ⟨_, by simp, _, by simp, he, h⟩
theorem two_in {a b : Bs} {T : List Bs} (ha : a ∈ T) (hb : b ∈ T) : ∀ x ∈ [a, b], x ∈ T := by
  intro x hx
  simp only [List.mem_cons, List.not_mem_nil, or_false] at hx
  rcases hx with rfl | rfl
  · exact ha
  · exact hb
theorem climb_top (t : Bs) (s : List Bool) (r : Bool) (p : List Bs) (h : p.length = s.length + 1) : climb hf (hf t) ((s ++ [r]).zip p) = hf (if r then 1 :: (climb hf (hf t) (s.zip p.dropLast) ++ p.getLast?.getD []) else 1 :: (p.getLast?.getD [] ++ climb hf (hf t) (s.zip p.dropLast))) := by
  rw [zip_snoc s r p (snoc_of h).1 h, climb_snoc]
  cases r <;> rfl
theorem texts_top (t : Bs) (s : List Bool) (r : Bool) (p : List Bs) (h : p.length = s.length + 1) : textsT hf t ((s ++ [r]).zip p) = textsT hf t (s.zip p.dropLast) ++ [if r then 1 :: (climb hf (hf t) (s.zip p.dropLast) ++ p.getLast?.getD []) else 1 :: (p.getLast?.getD [] ++ climb hf (hf t) (s.zip p.dropLast))] := by
  rw [zip_snoc s r p (snoc_of h).1 h, textsT_snoc]
theorem one_past (hlen : ∀ d, (hf d).length = 32) (n : Nat) : ∀ (m i : Nat) (w : Bool) (was : Bs) (p q l : List Bs) (t u : Bs), i < m → m ≤ n → p.length = (sides m i).length → q.length = (sides n i).length → l.length = long m n w →
    All32 p → All32 q → All32 l → was.length = 32 → t ≠ u → climb hf (hf t) ((sides m i).zip p) = (comesH hf m n w was l).1 → climb hf (hf u) ((sides n i).zip q) = (comesH hf m n w was l).2.1 →
    Clash hf (textsT hf t ((sides m i).zip p) ++ textsT hf u ((sides n i).zip q) ++ (comesH hf m n w was l).2.2) := by
  induction n using Nat.strongRecOn with
  | ind n ih =>
    intro m i w was p q l t u him hmn hp hq hl ap aq al hw hne h1 h2
    by_cases hb : n ≤ 1 ∨ m = n
    · have hmn' : m = n := by omega
      subst hmn'
      have e : (comesH hf m m w was l).1 = (comesH hf m m w was l).2.1 := by
        rw [comesH, if_pos hb]
        cases w <;> rfl
      refine (one_leaf hlen (sides m i) p q t u hp hq ap aq hne (h1.trans (e.trans h2.symm))).mono fun x hx => ?_
      exact List.mem_append.2 (.inl hx)
    · rw [long, if_neg hb] at hl
      rw [comesH, if_neg hb] at h1 h2 ⊢
      have hn1 : 1 < n := by omega
      by_cases h3 : m ≤ half n
      · rw [if_pos h3] at hl h1 h2 ⊢
        have hs : sides n i = sides (half n) i ++ [true] := by rw [sides, if_neg (by omega), if_pos (by omega)]
        obtain ⟨hlne, hll⟩ := snoc_of hl
        rw [hs] at hq h2 ⊢
        rw [List.length_append] at hq
        obtain ⟨hqne, hql⟩ := snoc_of hq
        rw [climb_top _ _ _ _ hq] at h2
        rw [texts_top _ _ _ _ hq]
        have hcl := (comes_length hlen _ m w was _ hw al.dropLast hll).2
        have hT := top_step (hf := hf) true _ _ _ _ (climb_length hlen ((sides (half n) i).zip q.dropLast) _ (hlen u)) (aq.last hqne) hcl (al.last hlne) h2
        rcases hT with hT | ⟨hT, _⟩
        · exact hT.mono (two_in (by simp) (by simp))
        · refine (ih _ (half_lt _ hn1) m i w was p q.dropLast l.dropLast t u him h3 hp hql hll ap aq.dropLast al.dropLast hw hne h1 hT).mono fun x hx => ?_
          simp only [List.mem_append] at hx ⊢
          rcases hx with (hx | hx) | hx
          · exact .inl (.inl hx)
          · exact .inl (.inr (.inl hx))
          · exact .inr (.inl hx)
      · rw [if_neg h3] at hl h1 h2 ⊢
        have hk : half m = half n := half_same m n (by omega) hmn hn1
        have hkp := half_pos n
        obtain ⟨hlne, hll⟩ := snoc_of hl
        have hcl := comes_length hlen _ (m - half n) false was _ hw al.dropLast hll
        by_cases h4 : i < half n
        · have hs : sides n i = sides (half n) i ++ [true] := by rw [sides, if_neg (by omega), if_pos h4]
          have hs' : sides m i = sides (half n) i ++ [true] := by rw [sides, if_neg (by omega), hk, if_pos h4]
          rw [hs] at hq h2 ⊢
          rw [hs'] at hp h1 ⊢
          rw [List.length_append] at hq hp
          obtain ⟨hqne, hql⟩ := snoc_of hq
          obtain ⟨hpne, hpl⟩ := snoc_of hp
          rw [climb_top _ _ _ _ hq] at h2
          rw [climb_top _ _ _ _ hp] at h1
          rw [texts_top _ _ _ _ hq, texts_top _ _ _ _ hp]
          have hT1 := top_step (hf := hf) true _ _ _ _ (climb_length hlen ((sides (half n) i).zip p.dropLast) _ (hlen t)) (ap.last hpne) (al.last hlne) hcl.1 h1
          rcases hT1 with hT1 | ⟨hT1, _⟩
          · exact hT1.mono (two_in (by simp) (by simp))
          have hT2 := top_step (hf := hf) true _ _ _ _ (climb_length hlen ((sides (half n) i).zip q.dropLast) _ (hlen u)) (aq.last hqne) (al.last hlne) hcl.2 h2
          rcases hT2 with hT2 | ⟨hT2, _⟩
          · exact hT2.mono (two_in (by simp) (by simp))
          refine (one_leaf hlen (sides (half n) i) p.dropLast q.dropLast t u hpl hql ap.dropLast aq.dropLast hne (hT1.trans hT2.symm)).mono fun x hx => ?_
          simp only [List.mem_append] at hx ⊢
          rcases hx with hx | hx
          · exact .inl (.inl (.inl hx))
          · exact .inl (.inr (.inl hx))
        · have hs : sides n i = sides (n - half n) (i - half n) ++ [false] := by rw [sides, if_neg (by omega), if_neg h4]
          have hs' : sides m i = sides (m - half n) (i - half n) ++ [false] := by rw [sides, if_neg (by omega), hk, if_neg h4]
          rw [hs] at hq h2 ⊢
          rw [hs'] at hp h1 ⊢
          rw [List.length_append] at hq hp
          obtain ⟨hqne, hql⟩ := snoc_of hq
          obtain ⟨hpne, hpl⟩ := snoc_of hp
          rw [climb_top _ _ _ _ hq] at h2
          rw [climb_top _ _ _ _ hp] at h1
          rw [texts_top _ _ _ _ hq, texts_top _ _ _ _ hp]
          have hT1 := top_step (hf := hf) false _ _ _ _ (climb_length hlen ((sides (m - half n) (i - half n)).zip p.dropLast) _ (hlen t)) (ap.last hpne) hcl.1 (al.last hlne) h1
          rcases hT1 with hT1 | ⟨hT1, _⟩
          · exact hT1.mono (two_in (by simp) (by simp))
          have hT2 := top_step (hf := hf) false _ _ _ _ (climb_length hlen ((sides (n - half n) (i - half n)).zip q.dropLast) _ (hlen u)) (aq.last hqne) hcl.2 (al.last hlne) h2
          rcases hT2 with hT2 | ⟨hT2, _⟩
          · exact hT2.mono (two_in (by simp) (by simp))
          refine (ih _ (by omega) (m - half n) (i - half n) false was p.dropLast q.dropLast l.dropLast t u (by omega) (by omega) hpl hql hll ap.dropLast aq.dropLast al.dropLast hw hne hT1 hT2).mono fun x hx => ?_
          simp only [List.mem_append] at hx ⊢
          rcases hx with (hx | hx) | hx
          · exact .inl (.inl (.inl hx))
          · exact .inl (.inr (.inl hx))
          · exact .inr (.inl hx)
end
end Go.Proofs.YtbbobpjcbnfpfaaDoor
