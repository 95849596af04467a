/- More on what came in: a list of lists of bytes. -/
import Derived.Test.YtmjdfglidfdkaaaDoorCloseB
import Derived.Deep.Slices
namespace Go.Proofs.YtmjdfglidfdkaaaDoor
open Go.ChangeShapes Go.WideShapes Go.ChangeAt Go.RowKit
instance : Inhabited SlR := ⟨⟨none, 0, []⟩⟩
theorem cellsOf22 : Tryd.prog.cellsOf 22 = 1 := by kernel_rfl
theorem total_bulk {H : Type} (f : Nat → SlR) (D : Nat → DataW H) : ∀ l : List Nat, (∀ i ∈ l, (f i).d.length ≤ Rows.uptoBulk (D i)) → total (l.map f) ≤ Rows.uptoBulkAll (l.map D)
  | [], _ => by simp [total]
  | i :: l, h => by
    have h1 := h i (by simp)
    have h2 := total_bulk f D l (fun j hj => h j (by simp [hj]))
    simp only [List.map_cons, Rows.uptoBulkAll, total, List.sum_cons] at h2 ⊢
    omega
theorem lists_in {H : Type} {enc : TypeId × Value → H} {W : World} {a0 : Option Addr} {len cap : Nat} {d : DataW H} {p : List MemPlace} (h : DataW.Trod enc Tryd.prog W 0 (fun _ => true) true 30 (.slice a0 len cap) d p) :
    ∃ xs : List SlR, xs.length = len ∧ Rd SlR.v W a0 cap xs ∧ (∀ x ∈ xs, Rd V8 W x.p x.cap x.d) ∧ total xs ≤ Rows.uptoBulk d ∧ len ≤ Rows.uptoBulk d := by
  obtain ⟨fuel, hf⟩ := h
  rcases Go.Deep.open_slice1 Tryd.underlying30 cellsOf22 hf with ⟨hcs, hx⟩ | ⟨a, len', cap', m, n, V, D, Pl, hcs, _, hl, hmx, hm, hx, hcell⟩
  · simp [Value.cells] at hcs
    obtain ⟨rfl, rfl, rfl⟩ := hcs
    exact ⟨[], rfl, Rd.nil _ _ _ _, by simp, by simp [total], by omega⟩
  · simp [Value.cells] at hcs
    obtain ⟨rfl, rfl, rfl⟩ := hcs
    simp only [Prod.mk.injEq] at hx
    obtain ⟨rfl, _⟩ := hx
    simp only [if_true] at hm
    subst hm
    have hex : ∀ i, i < len → ∃ x : SlR, V i = x.v ∧ Rd V8 W x.p x.cap x.d ∧ x.d.length ≤ Rows.uptoBulk (D i) := by
      intro i hi
      obtain ⟨_, ht⟩ := hcell i (by omega)
      have hsl : ∃ p l c, V i = .slice p l c := by
        rcases Go.Deep.open_slice Tryd.underlying22 ht with ⟨e, _⟩ | ⟨a1, l1, c1, _, _, _, _, e, _⟩
        · injection e with e; exact ⟨_, _, _, e⟩
        · injection e with e; exact ⟨_, _, _, e⟩
      obtain ⟨p1, l1, c1, hv⟩ := hsl
      obtain ⟨l, hll, hr, hb⟩ := bytes_in (enc := enc) (W := W) (a0 := p1) (len := l1) (cap := c1) (d := D i) (p := Pl i) ⟨n, by rw [hv] at ht; exact ht⟩
      exact ⟨⟨p1, c1, l⟩, by rw [hv, SlR.v, hll], hr, by show l.length ≤ _; omega⟩
    obtain ⟨f, hfz⟩ := Go.Deep.choose_lt hex
    refine ⟨(List.range len).map f, by simp, ⟨by simpa using hl, fun hne => ?_⟩, ?_, ?_, ?_⟩
    · have hpos : 0 < len := by
        rcases Nat.eq_zero_or_pos len with h0 | h0
        · subst h0; exact absurd rfl hne
        · exact h0
      obtain ⟨b, o, spot⟩ := a
      have hspot : spot = none := by simpa [Addr.add] using World.cell?_spot (hcell 0 (by omega)).1
      subst hspot
      refine ⟨b, o, rfl, fun j v hj => ?_⟩
      have hj' : j < len := by
        have := (List.getElem?_eq_some_iff.1 hj).1
        simpa using this
      have hc := (hcell j (by omega)).1
      rw [Addr.add_mid] at hc
      rw [hc, (hfz j hj').1]
      simp [hj'] at hj
      rw [← hj]
    · intro x hx
      obtain ⟨i, hi, rfl⟩ := List.mem_map.1 hx
      exact (hfz i (by simpa using hi)).2.1
    · have := total_bulk f D (List.range len) (fun i hi => (hfz i (by simpa using hi)).2.2)
      simp only [Rows.uptoBulk]
      omega
    · simp only [Rows.uptoBulk]
      have h1 := bulk_len ((List.range len).map D)
      simp only [List.length_map, List.length_range] at h1
      omega
end Go.Proofs.YtmjdfglidfdkaaaDoor
