/- The program's digest and the reference's are one: no memory, no Go. No condition. -/
import Derived.Test.YtmdgefiojapogaaDoorRfOfI
namespace Go.Proofs.YtmdgefiojapogaaDoor
def lenBytes (n : UInt64) : List UInt8 := [(n >>> 56).toUInt8, (n >>> 48).toUInt8, (n >>> 40).toUInt8, (n >>> 32).toUInt8, (n >>> 24).toUInt8, (n >>> 16).toUInt8, (n >>> 8).toUInt8, (n >>> 0).toUInt8]
theorem lenByte_list (n : Nat) : (List.range 8).map (fun i => lenByte n (7 - i)) = lenBytes (UInt64.ofNat n) := rfl
theorem fillN_end (a : List UInt8) (n : UInt64) (ha : a.length = 56) : fillN (a ++ zeros 8) n 8 = a ++ lenBytes n := by
  have hz : zeros 8 = [0, 0, 0, 0, 0, 0, 0, 0] := rfl
  rw [hz]
  simp [fillN, List.set_append, ha, lenBytes]
theorem zeros_add (a b : Nat) : zeros (a + b) = zeros a ++ zeros b := by
  unfold zeros; rw [List.replicate_append_replicate]
theorem mark_eq (last : UInt8) (m : Nat) (h : m < 8) : lastByte last m = if m = 0 then 128 else last &&& ~~~((2 : UInt8) * ((1 : UInt8) <<< UInt8.ofNat (7 - m)) - 1) ||| (1 : UInt8) <<< UInt8.ofNat (7 - m) := by
  have h8 : m = 0 ∨ m = 1 ∨ m = 2 ∨ m = 3 ∨ m = 4 ∨ m = 5 ∨ m = 6 ∨ m = 7 := by omega
  rcases h8 with rfl | rfl | rfl | rfl | rfl | rfl | rfl | rfl
  · simp only [if_true, lastByte]
    have e1 : ~~~((255 : UInt8) >>> UInt8.ofNat 0) = 0 := by decide
    rw [e1]; simp
  all_goals
    simp only [lastByte]
    rfl
theorem endSt_hst (l : List UInt8) (last : UInt8) (more : Nat) (N : UInt64) (hN : UInt64.ofNat l.length * 8 + UInt64.ofNat more = N) :
    endSt l last more = hst (l ++ [lastByte last more] ++ zeros ((120 - (l.length + 1) % 64) % 64) ++ lenBytes N) := by
  unfold endSt
  rw [hN]
  by_cases h : 56 ≤ l.length % 64
  · rw [if_pos h, if_pos h]
    have hK : (120 - (l.length + 1) % 64) % 64 = (63 - l.length % 64) + 56 := by omega
    have hz : zeros ((63 - l.length % 64) + 56) = zeros (63 - l.length % 64) ++ zeros 56 := zeros_add _ _
    rw [hK, hz]
    have h1 := step_full l (lastByte last more :: zeros (63 - l.length % 64)) (by simp [zeros_length]; omega)
    have h2 := step_full (l ++ lastByte last more :: zeros (63 - l.length % 64)) (zeros 56 ++ lenBytes N) (by simp [zeros_length, lenBytes]; omega)
    have e : l ++ [lastByte last more] ++ (zeros (63 - l.length % 64) ++ zeros 56) ++ lenBytes N = (l ++ lastByte last more :: zeros (63 - l.length % 64)) ++ (zeros 56 ++ lenBytes N) := by simp
    rw [e, h2.1, h1.1, h1.2, List.nil_append, ← fillN_end _ _ (zeros_length 56), ← zeros_add]
    rfl
  · rw [if_neg h, if_neg h]
    have hK : (120 - (l.length + 1) % 64) % 64 = 55 - l.length % 64 := by omega
    rw [hK]
    have h1 := step_full l (lastByte last more :: zeros (55 - l.length % 64) ++ lenBytes N) (by simp [zeros_length, lenBytes]; omega)
    have e : l ++ [lastByte last more] ++ zeros (55 - l.length % 64) ++ lenBytes N = l ++ (lastByte last more :: zeros (55 - l.length % 64) ++ lenBytes N) := by simp
    rw [e, h1.1, ← List.append_assoc, ← fillN_end _ _ (by simp [tl_length, zeros_length]; omega)]
    have e2 : tl l ++ lastByte last more :: zeros (55 - l.length % 64) ++ zeros 8 = pad1 l last more := by
      unfold pad1
      rw [List.append_assoc, List.cons_append, ← zeros_add, show 55 - l.length % 64 + 8 = 63 - l.length % 64 by omega]
      rfl
    rw [e2]
theorem fin_ref (d : List UInt8) (n : Nat) (hn : n ≤ 8 * d.length) : fin (d.take (n / 8)) (if n % 8 = 0 then 0 else d.getD (n / 8) 0) (n % 8) = refOf d n := by
  have hl : (d.take (n / 8)).length = n / 8 := by simp; omega
  have hm : lastByte (if n % 8 = 0 then 0 else d.getD (n / 8) 0) (n % 8) = markOf d n := by
    rw [mark_eq _ _ (by omega)]
    unfold markOf
    by_cases h : n % 8 = 0
    · rw [if_pos h, if_pos h]
    · rw [if_neg h, if_neg h, if_neg h]
  unfold fin refOf
  have hN : UInt64.ofNat (d.take (n / 8)).length * 8 + UInt64.ofNat (n % 8) = UInt64.ofNat n := by
    rw [hl]
    have e := congrArg UInt64.ofNat (Nat.div_add_mod n 8)
    rw [UInt64.ofNat_add, UInt64.ofNat_mul, UInt64.mul_comm] at e
    exact e
  rw [endSt_hst _ _ _ _ hN, hm, hl, ← lenByte_list]
  unfold laidOf
  rw [text_length d n hn]
  rfl
theorem sum_ref (d : List UInt8) : fin d 0 0 = refOf d (8 * d.length) := by
  have h := fin_ref d (8 * d.length) (Nat.le_refl _)
  have e1 : 8 * d.length / 8 = d.length := by omega
  have e2 : 8 * d.length % 8 = 0 := by omega
  rw [e1, e2, if_pos rfl, List.take_length] at h
  exact h
end Go.Proofs.YtmdgefiojapogaaDoor
