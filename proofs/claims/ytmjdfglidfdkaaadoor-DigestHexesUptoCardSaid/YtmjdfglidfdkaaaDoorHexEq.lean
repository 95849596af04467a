/- There and back between bytes and digits: no memory, no Go. No condition. -/
import Derived.Test.YtmjdfglidfdkaaaDoorRfRead2
namespace Go.Proofs.YtmjdfglidfdkaaaDoor
theorem read_dg : ∀ n : Fin 16, readVal (dg (UInt8.ofNat n.val)) = UInt8.ofNat n.val := by decide +kernel
theorem dg_read : ∀ n : Fin 256, readVal (UInt8.ofNat n.val) ≤ 15 → dg (readVal (UInt8.ofNat n.val)) = UInt8.ofNat n.val := by decide +kernel
theorem split_byte : ∀ n : Fin 256, (16 : UInt8) * (UInt8.ofNat n.val >>> 4) + (UInt8.ofNat n.val &&& 15) = UInt8.ofNat n.val := by decide +kernel
theorem join_hi : ∀ a b : Fin 16, (16 * UInt8.ofNat a.val + UInt8.ofNat b.val) >>> 4 = UInt8.ofNat a.val ∧ (16 * UInt8.ofNat a.val + UInt8.ofNat b.val) &&& 15 = UInt8.ofNat b.val := by decide +kernel
theorem read_dg' (y : UInt8) (h : y.toNat < 16) : readVal (dg y) = y := by simpa using read_dg ⟨y.toNat, h⟩
theorem dg_read' (c : UInt8) (h : readVal c ≤ 15) : dg (readVal c) = c := by
  have h1 := dg_read ⟨c.toNat, c.toNat_lt⟩
  simp at h1
  exact h1 h
theorem split_byte' (x : UInt8) : (16 : UInt8) * (x >>> 4) + (x &&& 15) = x := by simpa using split_byte ⟨x.toNat, x.toNat_lt⟩
theorem join_hi' (a b : UInt8) (ha : a ≤ 15) (hb : b ≤ 15) : (16 * a + b) >>> 4 = a ∧ (16 * a + b) &&& 15 = b := by
  have h1 : a.toNat < 16 := Nat.lt_succ_of_le ha
  have h2 : b.toNat < 16 := Nat.lt_succ_of_le hb
  simpa using join_hi ⟨a.toNat, h1⟩ ⟨b.toNat, h2⟩
theorem hexOf_get (d : List UInt8) : ∀ (i : Nat), i < d.length → (hexOf d)[2 * i]? = some (dg (d.getD i 0 >>> 4)) ∧ (hexOf d)[2 * i + 1]? = some (dg (d.getD i 0 &&& 15)) := by
  induction d with
  | nil => intro i hi; simp at hi
  | cons x d ih =>
    intro i hi
    cases i with
    | zero => exact ⟨rfl, rfl⟩
    | succ i =>
      have h := ih i (by simpa using hi)
      have e : hexOf (x :: d) = dg (x >>> 4) :: dg (x &&& 15) :: hexOf d := rfl
      rw [e]
      simp only [show 2 * (i + 1) = 2 * i + 1 + 1 by omega, List.getElem?_cons_succ, List.getD_cons_succ]
      exact h
theorem hexRd_hexOf (d : List UInt8) (i : Nat) (h : i < d.length) : hexRd (hexOf d) i = d.getD i 0 ∧ hexFine (hexOf d) i = true := by
  obtain ⟨h1, h2⟩ := hexOf_get d i h
  have r1 := read_dg' (d.getD i 0 >>> 4) (hi4 _)
  have r2 := read_dg' (d.getD i 0 &&& 15) (lo4 _)
  unfold hexRd hexFine
  simp only [List.getD_eq_getElem?_getD] at *
  rw [h1, h2]
  simp only [Option.getD_some, r1, r2]
  refine ⟨split_byte' _, ?_⟩
  have a1 : (d[i]?.getD 0) >>> 4 ≤ (15 : UInt8) := Nat.le_of_lt_succ (hi4 _)
  have a2 : (d[i]?.getD 0) &&& 15 ≤ (15 : UInt8) := Nat.le_of_lt_succ (lo4 _)
  simp [a1, a2]
theorem hexOf_good (d : List UInt8) (hd : d.length = 32) : hexGood (hexOf d) = true :=
  hexGood_all _ (by rw [hexOf_length, hd]) (fun i hi => (hexRd_hexOf d i (by omega)).2)
theorem hexOut_hexOf (d : List UInt8) (hd : d.length = 32) : hexOut (hexOf d) = d := by
  unfold hexOut
  rw [if_pos (hexOf_good d hd)]
  apply List.ext_getElem
  · simp [hd]
  · intro i h1 h2
    simp only [List.getElem_map, List.getElem_range]
    rw [(hexRd_hexOf d i h2).1]
    simp [List.getElem?_eq_getElem h2]
theorem hexOut_length (l : List UInt8) : (hexOut l).length = 32 := by
  unfold hexOut
  split
  · simp
  · exact zeros_length 32
theorem hexOf_hexOut (l : List UInt8) (h : hexGood l = true) : hexOf (hexOut l) = l := by
  have h' := h
  unfold hexGood at h'
  rw [Bool.and_eq_true] at h'
  have hl : l.length = 64 := by simpa using h'.1
  have hf : ∀ i, i < 32 → hexFine l i = true := fun i hi => by
    have := h'.2
    rw [List.all_eq_true] at this
    exact this i (by simpa using hi)
  apply List.ext_getElem?
  intro j
  by_cases hj : j < 64
  · obtain ⟨g1, g2⟩ := hexOf_get (hexOut l) (j / 2) (by rw [hexOut_length]; omega)
    have e : (hexOut l).getD (j / 2) 0 = hexRd l (j / 2) := by
      unfold hexOut
      rw [if_pos h]
      simp [show j / 2 < 32 by omega]
    rw [e] at g1 g2
    have hfi := hf (j / 2) (by omega)
    unfold hexFine at hfi
    rw [Bool.and_eq_true] at hfi
    have f1 := of_decide_eq_true hfi.1
    have f2 := of_decide_eq_true hfi.2
    obtain ⟨j1, j2⟩ := join_hi' _ _ f1 f2
    unfold hexRd at g1 g2
    rw [j1, dg_read' _ f1] at g1
    rw [j2, dg_read' _ f2] at g2
    have hjj : j = 2 * (j / 2) ∨ j = 2 * (j / 2) + 1 := by omega
    rcases hjj with hjj | hjj
    · rw [hjj, g1]
      simp [List.getElem?_eq_getElem (show 2 * (j / 2) < l.length by omega)]
    · rw [hjj, g2]
      simp [List.getElem?_eq_getElem (show 2 * (j / 2) + 1 < l.length by omega)]
  · rw [List.getElem?_eq_none (by rw [hexOf_length, hexOut_length]; omega), List.getElem?_eq_none (by omega)]
end Go.Proofs.YtmjdfglidfdkaaaDoor
