/- Lists of bytes, of numbers that came in. No condition. -/
import Derived.Test.YtnmcbdppbpfegaaPostIn
import Derived.Test.YtnmcbdppbpfegaaOwnI
namespace Go.Proofs.Ytnmcbdppbpfegaa
open Go.ChangeShapes Go.WideShapes Go.ChangeAt Go.RowKit
def bytesOf (zs : List Int) : List UInt8 := zs.map fun z => UInt8.ofNat z.toNat

/-- A list of bytes that came in. -/
theorem bytes_in {H : Type} {enc : TypeId × Value → H} {W : World} {a0 : Option Addr} {len cap : Nat} {d : DataW H} {p : List MemPlace} (h : DataW.Trod enc Try.prog W 0 (fun _ => true) true 22 (.slice a0 len cap) d p) :
    ∃ l : List UInt8, l.length = len ∧ Rd V8 W a0 cap l ∧ len ≤ Rows.uptoBulk d := by
  obtain ⟨fuel, hf⟩ := h
  rcases open_ints Try.underlying22 Try.underlying5 cells8 hf with ⟨hcs, hx⟩ | ⟨a, len', cap', zs, hcs, _, hl, hm, hz, hx, hcell, hwz⟩
  · simp [Value.cells] at hcs
    obtain ⟨rfl, rfl, rfl⟩ := hcs
    exact ⟨[], rfl, ⟨by simp, fun hne => absurd rfl hne⟩, by omega⟩
  · simp [Value.cells] at hcs
    obtain ⟨rfl, rfl, rfl⟩ := hcs
    simp only [Prod.mk.injEq] at hx
    obtain ⟨rfl, _⟩ := hx
    simp only [if_true] at hz
    have hlen : len ≤ zs.length := by rw [hz]; exact hl
    refine ⟨bytesOf (zs.take len), by simp [bytesOf, hlen], ⟨by simp [bytesOf, hlen]; exact hl, fun hne => ?_⟩, ?_⟩
    · have hpos : 0 < len := by
        rcases Nat.eq_zero_or_pos len with h0 | h0
        · subst h0; exact absurd rfl hne
        · exact h0
      obtain ⟨b, o, spot⟩ := a
      have hspot : spot = none := by simpa [Addr.add] using World.cell?_spot (hcell 0 (by omega))
      subst hspot
      refine ⟨b, o, rfl, fun j v hj => ?_⟩
      have hj' : j < len := by
        have := (List.getElem?_eq_some_iff.1 hj).1
        simp [bytesOf] at this
        omega
      have hc := hcell j (by omega)
      rw [Addr.add_mid] at hc
      rw [hc]
      have hzj : zs[j]? = some (zs.getD j 0) := by simp [List.getElem?_eq_getElem (show j < zs.length by omega)]
      have hw := hwz _ (List.mem_of_getElem? hzj)
      simp only [bytesOf, List.getElem?_map, List.getElem?_take, hj', if_true, hzj, Option.map_some, Option.some.injEq] at hj
      rw [← hj]
      simp only [Lit.wf, Bool.and_eq_true, decide_eq_true_eq] at hw
      generalize zs.getD j 0 = z at *
      have h1 : 0 ≤ z ∧ z < 256 := by
        have h3 : (0 : Int) ≤ z ∧ z ≤ 255 := hw
        omega
      unfold V8
      rw [UInt8.toNat_ofNat']
      congr 2
      omega
    · simp only [Rows.uptoBulk]
      have h1 := bulk_len (lits (H := H) .u8 (zs.take len))
      have h2 : (lits (H := H) .u8 (zs.take len)).length = len := by simp [lits, hlen]
      omega
/-- A list of numbers that came in. -/
theorem ints_in {H : Type} {enc : TypeId × Value → H} {W : World} {a0 : Option Addr} {len cap : Nat} {d : DataW H} {p : List MemPlace} (h : DataW.Trod enc Try.prog W 0 (fun _ => true) true 31 (.slice a0 len cap) d p) :
    ∃ l : List Int, l.length = len ∧ Rd VI W a0 cap l ∧ (∀ c ∈ l, -9223372036854775808 ≤ c ∧ c ≤ 9223372036854775807) ∧ len ≤ Rows.uptoBulk d := by
  obtain ⟨fuel, hf⟩ := h
  rcases open_ints Try.underlying31 Try.underlying3 cellsI hf with ⟨hcs, hx⟩ | ⟨a, len', cap', zs, hcs, _, hl, hm, hz, hx, hcell, hwz⟩
  · simp [Value.cells] at hcs
    obtain ⟨rfl, rfl, rfl⟩ := hcs
    exact ⟨[], rfl, ⟨by simp, fun hne => absurd rfl hne⟩, by simp, by omega⟩
  · simp [Value.cells] at hcs
    obtain ⟨rfl, rfl, rfl⟩ := hcs
    simp only [Prod.mk.injEq] at hx
    obtain ⟨rfl, _⟩ := hx
    simp only [if_true] at hz
    have hlen : len ≤ zs.length := by rw [hz]; exact hl
    refine ⟨zs.take len, by simp [hlen], ⟨by simp [hlen]; exact hl, fun hne => ?_⟩, fun c hc => int64_of (hwz c (List.mem_of_mem_take hc)), ?_⟩
    · have hpos : 0 < len := by
        rcases Nat.eq_zero_or_pos len with h0 | h0
        · subst h0; exact absurd rfl hne
        · exact h0
      obtain ⟨b, o, spot⟩ := a
      have hspot : spot = none := by simpa [Addr.add] using World.cell?_spot (hcell 0 (by omega))
      subst hspot
      refine ⟨b, o, rfl, fun j v hj => ?_⟩
      have hj' : j < len := by
        have := (List.getElem?_eq_some_iff.1 hj).1
        simp at this
        omega
      have hc := hcell j (by omega)
      rw [Addr.add_mid] at hc
      rw [hc]
      have hzj : zs[j]? = some (zs.getD j 0) := by simp [List.getElem?_eq_getElem (show j < zs.length by omega)]
      simp only [List.getElem?_map, List.getElem?_take, hj', if_true, hzj, Option.map_some, Option.some.injEq] at hj
      rw [← hj]; rfl
    · simp only [Rows.uptoBulk]
      have h1 := bulk_len (lits (H := H) .i64 (zs.take len))
      have h2 : (lits (H := H) .i64 (zs.take len)).length = len := by simp [lits, hlen]
      omega
end Go.Proofs.Ytnmcbdppbpfegaa
