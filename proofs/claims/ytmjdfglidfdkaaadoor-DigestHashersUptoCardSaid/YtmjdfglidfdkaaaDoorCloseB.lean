/- More on what came in: lists of lists; the arguments behind the call. -/
import Derived.Test.YtmjdfglidfdkaaaDoorClose
import Derived.Deep.Slices
namespace Go.Proofs.YtmjdfglidfdkaaaDoor
open Go.ChangeShapes Go.WideShapes Go.ChangeAt Go.RowKit
theorem trodAll_below {H : Type} {enc : TypeId × Value → H} {W W' : World} (hb : Below W.heap.size W W') : ∀ {ts : List TypeId} {vs : List Value} {ds : List (DataW H)} {ps : List MemPlace},
    (∀ t ∈ ts, Tryd.prog.readableRec t = true ∧ t < Tryd.prog.types.size) → (∀ x ∈ ps, x.block < W.heap.size) → DataW.TrodAll enc Tryd.prog W 0 (fun _ => true) true ts vs ds ps →
    DataW.TrodAll enc Tryd.prog W' 0 (fun b => decide (b < W.heap.size)) true ts vs ds ps
  | [], _, _, _, _, _, h => by
    obtain ⟨rfl, rfl, rfl⟩ := trodAll_nil h
    exact trodAll_mk0
  | t :: ts, _, _, _, ht, hp, h => by
    obtain ⟨v, vs', d, ds', p, q, rfl, rfl, rfl, h0, hr⟩ := trodAll_cons h
    exact trodAll_cons_mk (Below.trod laidOut (ht t (by simp)).1 (ht t (by simp)).2 h0 hb (fun x hx => hp x (by simp [hx]))) (trodAll_below hb (fun t' h' => ht t' (by simp [h'])) (fun x hx => hp x (by simp [hx])) hr)
theorem int64_of {n : Int} (h : (Lit.int .i64 n).wf = true) : -9223372036854775808 ≤ n ∧ n ≤ 9223372036854775807 := by
  simp only [Lit.wf, Bool.and_eq_true, decide_eq_true_eq] at h
  exact h
theorem cellsOf3 : Tryd.prog.cellsOf 3 = 1 := by kernel_rfl
/-- A list of numbers that came in. -/
theorem ints_in {H : Type} {enc : TypeId × Value → H} {W : World} {a0 : Option Addr} {len cap : Nat} {d : DataW H} {p : List MemPlace} (h : DataW.Trod enc Tryd.prog W 0 (fun _ => true) true 54 (.slice a0 len cap) d p) :
    ∃ l : List Int, l.length = len ∧ Rd (Value.int .i64) W a0 cap l ∧ (∀ c ∈ l, -9223372036854775808 ≤ c ∧ c ≤ 9223372036854775807) ∧ len ≤ Rows.uptoBulk d := by
  obtain ⟨fuel, hf⟩ := h
  rcases open_ints Tryd.underlying54 Tryd.underlying3 cellsOf3 hf with ⟨hcs, hx⟩ | ⟨a, len', cap', zs, hcs, _, hl, hm, hz, hx, hcell, hwz⟩
  · simp [Value.cells] at hcs
    obtain ⟨rfl, rfl, rfl⟩ := hcs
    exact ⟨[], rfl, ⟨by simp, fun hne => absurd rfl hne⟩, by simp, by omega⟩
  · simp [Value.cells] at hcs
    obtain ⟨rfl, rfl, rfl⟩ := hcs
    simp only [Prod.mk.injEq] at hx
    obtain ⟨rfl, _⟩ := hx
    simp only [if_true] at hz
    have hlen : len ≤ zs.length := by rw [hz]; exact hl
    refine ⟨zs.take len, by simp [hlen], ⟨by simp [hlen]; exact hl, fun hne => ?_⟩, fun c hc => int64_of (hwz c (List.mem_of_mem_take hc)), ?_⟩
    · have hpos : 0 < len := by
        rcases Nat.eq_zero_or_pos len with h0 | h0
        · subst h0; exact absurd rfl hne
        · exact h0
      obtain ⟨b, o, spot⟩ := a
      have hspot : spot = none := by simpa [Addr.add] using World.cell?_spot (hcell 0 (by omega))
      subst hspot
      refine ⟨b, o, rfl, fun j v hj => ?_⟩
      have hj' : j < len := by
        have := (List.getElem?_eq_some_iff.1 hj).1
        simp at this
        omega
      have hc := hcell j (by omega)
      rw [Addr.add_mid] at hc
      rw [hc]
      have hzj : zs[j]? = some (zs.getD j 0) := by simp [List.getElem?_eq_getElem (show j < zs.length by omega)]
      simp only [List.getElem?_map, List.getElem?_take, hj', if_true, hzj, Option.map_some, Option.some.injEq] at hj
      rw [← hj]
    · simp only [Rows.uptoBulk]
      have h1 := bulk_len (lits (H := H) .i64 (zs.take len))
      have h2 : (lits (H := H) .i64 (zs.take len)).length = len := by simp [lits, hlen]
      omega
end Go.Proofs.YtmjdfglidfdkaaaDoor
