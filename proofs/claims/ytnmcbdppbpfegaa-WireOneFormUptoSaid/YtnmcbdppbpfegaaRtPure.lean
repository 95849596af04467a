/- What is taken IS the form of what was got. No program in sight. No condition. -/
import Derived.Test.YtnmcbdppbpfegaaRtWide
import Derived.Test.YtnmcbdppbpfegaaWrMore
namespace Go.Proofs.Ytnmcbdppbpfegaa
open Go.RowKit
/-- A number by k bytes, the highest first. -/
def beB : Nat → Nat → List UInt8
  | 0, _ => []
  | k + 1, n => beB k (n / 256) ++ [UInt8.ofNat n]
theorem be8_beB (n : Nat) : be8 n = beB 8 n := by
  simp [be8, beB, List.range_succ, Nat.shiftRight_eq_div_pow, Nat.div_div_eq_div_mul]
theorem beB_zero : ∀ k, beB k 0 = List.replicate k 0
  | 0 => rfl
  | k + 1 => by
    rw [beB, Nat.zero_div, beB_zero k, List.replicate_succ']
    rfl
theorem snoc_or (l : List UInt8) : l = [] ∨ ∃ i x, l = i ++ [x] := by
  rcases List.eq_nil_or_concat l with h | ⟨i, x, h⟩
  · exact .inl h
  · exact .inr ⟨i, x, by simpa using h⟩
theorem beB_beN : ∀ (k : Nat) (h : List UInt8), h.length ≤ k → beB k (beN h) = List.replicate (k - h.length) 0 ++ h
  | 0, h, hk => by
    have : h = [] := List.eq_nil_of_length_eq_zero (by omega)
    subst this
    rfl
  | k + 1, h, hk => by
    rcases snoc_or h with rfl | ⟨i, x, rfl⟩
    · rw [show beN [] = 0 from rfl, beB_zero]; simp
    · rw [List.length_append, List.length_singleton] at hk
      have hx := x.toNat_lt
      have e : UInt8.ofNat (beN i * 256 + x.toNat) = x := by
        apply UInt8.toNat_inj.1
        rw [UInt8.toNat_ofNat']
        omega
      rw [beN_snoc, beB, show (beN i * 256 + x.toNat) / 256 = beN i by omega, beB_beN k i (by omega), List.length_append, List.length_singleton, List.append_assoc, show k + 1 - (i.length + 1) = k - i.length by omega, e]
theorem bare_pad (m : Nat) (h : List UInt8) (hh : h.head? ≠ some 0) : bare (List.replicate m 0 ++ h) = h := by
  induction m with
  | zero =>
    rw [List.replicate_zero, List.nil_append]
    cases h with
    | nil => rfl
    | cons x l =>
      have : x ≠ 0 := fun e => hh (by rw [e]; rfl)
      simp [bare, this]
  | succ m ih => rw [List.replicate_succ, List.cons_append, bare, if_pos rfl, ih]
/-- What highP takes. -/
theorem highP_form {most : Nat} {l h : List UInt8} (hp : highP most l = .ok h) : h.head? ≠ some 0 ∧ UInt8.ofNat h.length :: h = l.take (1 + h.length) := by
  cases l with
  | nil => cases hp
  | cons k r =>
    simp only [highP] at hp
    split at hp
    · cases hp
    split at hp
    · cases hp
    split at hp
    · cases hp
    · rename_i _ hlt hz
      injection hp with hp
      subst hp
      have hl : (r.take k.toNat).length = k.toNat := by rw [List.length_take]; omega
      constructor
      · intro he
        by_cases h0 : k = 0
        · subst h0; simp at he
        · refine hz ⟨h0, ?_⟩
          have hk : k.toNat ≠ 0 := fun e => h0 (UInt8.toNat_inj.1 (by rw [e]; rfl))
          rw [List.head?_take, if_neg hk] at he
          exact he
      · rw [hl, Nat.add_comm, List.take_succ_cons, UInt8.ofNat_toNat]
theorem short_pad {m : Nat} {h : List UInt8} (hh : h.head? ≠ some 0) : short (List.replicate m 0 ++ h) = UInt8.ofNat h.length :: h := by
  unfold short
  rw [bare_pad m h hh]
theorem numP_form {l : List UInt8} {n c : Nat} (hp : numP l = .ok (n, c)) : form n = l.take c := by
  unfold numP at hp
  split at hp
  · cases hp
  · rename_i h hh
    split at hp
    · injection hp with hp
      injection hp with h1 h2
      subst h1 h2
      have := highP_ok hh
      obtain ⟨h3, h4⟩ := highP_form hh
      rw [← h4, form, be8_beB, beB_beN 8 h (by omega), short_pad h3]
    · cases hp
theorem bytesP_form {m : Int} {l x : List UInt8} {c : Nat} (hp : bytesP m l = .ok (x, c)) : form x.length ++ x = l.take c ∧ c ≤ l.length := by
  unfold bytesP at hp
  split at hp
  · cases hp
  · rename_i n c0 hh
    injection hp with hp
    injection hp with h1 h2
    subst h1 h2
    obtain ⟨h3, _, h5⟩ := manyP_ok hh
    have h6 := numP_ok h3
    have hl : ((l.drop c0).take n).length = n := by rw [List.length_take, List.length_drop]; omega
    rw [hl, numP_form h3, List.take_add]
    exact ⟨rfl, by omega⟩
/-- A byte of a wide number, counted from the lowest. -/
def lowB (a : List UInt64) (q : Nat) : UInt8 := (a[q / 8]?.getD 0 >>> UInt64.ofNat (8 * (q % 8))).toUInt8
theorem be32_lowB (a : List UInt64) : be32 a = (List.range 32).map fun i => lowB a (31 - i) := by
  unfold be32
  refine List.map_congr_left fun i hi => ?_
  have hi := List.mem_range.1 hi
  unfold lowB
  rw [show (31 - i) / 8 = 3 - i / 8 by omega, show 8 * ((31 - i) % 8) = 56 - 8 * (i % 8) by omega]
theorem or_byte (x : UInt64) (c : UInt8) (r s : Nat) (hr : r < 8) (hs : s < 8) : ((x ||| (c.toUInt64 <<< (8 * UInt64.ofNat r))) >>> UInt64.ofNat (8 * s)).toUInt8 = if r = s then (x >>> UInt64.ofNat (8 * s)).toUInt8 ||| c else (x >>> UInt64.ofNat (8 * s)).toUInt8 := by
  have hc := c.toNat_lt
  have e1 : (8 * UInt64.ofNat r).toNat = 8 * r := by rw [UInt64.toNat_mul, UInt64.toNat_ofNat']; simp; omega
  have e2 : (UInt64.ofNat (8 * s)).toNat = 8 * s := by rw [UInt64.toNat_ofNat']; omega
  have key : ∀ i, i < 8 → ((x.toNat ||| (c.toNat <<< (8 * r)) % 2 ^ 64) >>> (8 * s)).testBit i = ((x.toNat >>> (8 * s)).testBit i || (decide (r = s) && c.toNat.testBit i)) := by
    intro i hi
    rw [Nat.testBit_shiftRight, Nat.testBit_or, Nat.testBit_mod_two_pow, Nat.testBit_shiftLeft, Nat.testBit_shiftRight]
    congr 1
    have h64 : 8 * s + i < 64 := by omega
    simp only [h64, decide_true, Bool.true_and]
    rcases Nat.lt_trichotomy r s with h | h | h
    · have : c.toNat.testBit (8 * s + i - 8 * r) = false := Nat.testBit_lt_two_pow (Nat.lt_of_lt_of_le hc (Nat.pow_le_pow_right (by omega) (by omega : 8 ≤ _)))
      rw [this]
      simp; omega
    · subst h
      simp [show 8 * r + i - 8 * r = i by omega]
    · have : ¬ (8 * s + i ≥ 8 * r) := by omega
      simp [this]; omega
  have big : ∀ (y : Nat) (i : Nat), (y % 2 ^ 8).testBit i = (decide (i < 8) && y.testBit i) := fun y i => Nat.testBit_mod_two_pow y 8 i
  have hl : ((x ||| (c.toUInt64 <<< (8 * UInt64.ofNat r))) >>> UInt64.ofNat (8 * s)).toUInt8.toNat = ((x.toNat ||| (c.toNat <<< (8 * r)) % 2 ^ 64) >>> (8 * s)) % 2 ^ 8 := by
    rw [UInt64.toNat_toUInt8, UInt64.toNat_shiftRight, UInt64.toNat_or, UInt64.toNat_shiftLeft, e1, e2, UInt8.toNat_toUInt64, Nat.mod_eq_of_lt (show 8 * r < 64 by omega), Nat.mod_eq_of_lt (show 8 * s < 64 by omega)]
  have hx : (x >>> UInt64.ofNat (8 * s)).toUInt8.toNat = (x.toNat >>> (8 * s)) % 2 ^ 8 := by
    rw [UInt64.toNat_toUInt8, UInt64.toNat_shiftRight, e2, Nat.mod_eq_of_lt (show 8 * s < 64 by omega)]
  apply UInt8.toNat_inj.1
  split
  · rename_i h
    rw [UInt8.toNat_or, hl, hx]
    refine Nat.eq_of_testBit_eq fun i => ?_
    rw [Nat.testBit_or, big, big]
    by_cases hi : i < 8
    · rw [key i hi]; simp [hi, h]
    · have : c.toNat.testBit i = false := Nat.testBit_lt_two_pow (Nat.lt_of_lt_of_le hc (Nat.pow_le_pow_right (by omega) (by omega : 8 ≤ _)))
      simp [hi, this]
  · rename_i h
    rw [hl, hx]
    refine Nat.eq_of_testBit_eq fun i => ?_
    rw [big, big]
    by_cases hi : i < 8
    · rw [key i hi]; simp [hi, h]
    · simp [hi]
theorem lowB_step (a : List UInt64) (ha : a.length = 4) (k q : Nat) (hk : k < 32) (hq : q < 32) (c : UInt8) : lowB (wideStep a k c) q = if k = q then lowB a q ||| c else lowB a q := by
  unfold lowB wideStep
  by_cases hd : k / 8 = q / 8
  · rw [hd, List.getElem?_set_self (by omega), Option.getD_some, or_byte _ _ _ _ (by omega) (by omega)]
    by_cases hkq : k = q
    · rw [if_pos (by omega), if_pos hkq]
    · rw [if_neg (by omega), if_neg hkq]
  · rw [List.getElem?_set_ne hd, if_neg (by rintro rfl; exact hd rfl)]
theorem lowB_zero (q : Nat) : lowB [0, 0, 0, 0] q = 0 := by
  have : ([0, 0, 0, 0] : List UInt64)[q / 8]?.getD 0 = 0 := by
    match q / 8 with
    | 0 | 1 | 2 | 3 => rfl
    | _ + 4 => rfl
  unfold lowB
  rw [this]
  simp
theorem lowB_to (h : List UInt8) (hl : h.length ≤ 32) : ∀ i, i ≤ h.length → ∀ q, q < 32 → lowB (wideTo h i) q = if h.length - i ≤ q ∧ q < h.length then h[h.length - 1 - q]?.getD 0 else 0
  | 0, _, q, _ => by rw [wideTo, lowB_zero, if_neg (by omega)]
  | i + 1, hi, q, hq => by
    rw [wideTo, lowB_step _ (wideTo_len h i) _ q (by omega) hq, lowB_to h hl i (by omega) q hq]
    by_cases hk : h.length - 1 - i = q
    · rw [if_pos hk, if_neg (by omega), if_pos (by omega), show h.length - 1 - q = i by omega]
      simp
    · rw [if_neg hk]
      by_cases hin : h.length - i ≤ q ∧ q < h.length
      · rw [if_pos hin, if_pos (by omega)]
      · rw [if_neg hin, if_neg (by omega)]
theorem be32_wideOf (h : List UInt8) (hl : h.length ≤ 32) : be32 (wideOf h) = List.replicate (32 - h.length) 0 ++ h := by
  rw [be32_lowB]
  refine List.ext_getElem (by simp; omega) fun i h1 h2 => ?_
  rw [List.length_map, List.length_range] at h1
  rw [List.getElem_map, List.getElem_range, wideOf, lowB_to h hl h.length (Nat.le_refl _) (31 - i) (by omega)]
  by_cases hi : i < 32 - h.length
  · rw [if_neg (by omega), List.getElem_append_left (by simpa using hi), List.getElem_replicate]
  · rw [if_pos (by omega), List.getElem_append_right (by simpa using hi)]
    simp only [List.length_replicate]
    rw [show h.length - 1 - (31 - i) = i - (32 - h.length) by omega, List.getElem?_eq_getElem (by omega)]
    rfl
theorem wideP_form {l : List UInt8} {a : List UInt64} {c : Nat} (hp : wideP l = .ok (a, c)) : short (be32 a) = l.take c ∧ c ≤ l.length := by
  unfold wideP at hp
  split at hp
  · cases hp
  · rename_i h hh
    injection hp with hp
    injection hp with h1 h2
    subst h1 h2
    have := highP_ok hh
    obtain ⟨h3, h4⟩ := highP_form hh
    rw [be32_wideOf h (by omega), short_pad h3]
    exact ⟨h4, by omega⟩
theorem rowP_form {n : Nat} {l x : List UInt8} {c : Nat} (hp : rowP n l = .ok (x, c)) : x = l.take c ∧ c ≤ l.length ∧ c = n := by
  unfold rowP at hp
  split at hp
  · cases hp
  · injection hp with hp
    injection hp with h1 h2
    subst h1 h2
    exact ⟨rfl, by omega, rfl⟩
theorem byteP_form {l : List UInt8} {x : UInt8} {c : Nat} (hp : byteP l = .ok (x, c)) : [x] = l.take c ∧ c ≤ l.length := by
  cases l with
  | nil => cases hp
  | cons k r => injection hp with hp; injection hp with h1 h2; subst h1 h2; simp
theorem flagP_form {l : List UInt8} {x : Bool} {c : Nat} (hp : flagP l = .ok (x, c)) : [if x then 1 else 0] = l.take c ∧ c ≤ l.length := by
  cases l with
  | nil => cases hp
  | cons k r =>
    simp only [flagP] at hp
    split at hp
    · rename_i hk
      injection hp with hp; injection hp with h1 h2; subst h1 h2
      have h3 : k.toNat ≤ 1 := UInt8.le_iff_toNat_le.1 hk
      have h4 : k = 0 ∨ k = 1 := by
        rcases Nat.lt_or_ge k.toNat 1 with h | h
        · exact .inl (UInt8.toNat_inj.1 (by show k.toNat = 0; omega))
        · exact .inr (UInt8.toNat_inj.1 (by show k.toNat = 1; omega))
      rcases h4 with rfl | rfl <;> simp
    · cases hp
end Go.Proofs.Ytnmcbdppbpfegaa
