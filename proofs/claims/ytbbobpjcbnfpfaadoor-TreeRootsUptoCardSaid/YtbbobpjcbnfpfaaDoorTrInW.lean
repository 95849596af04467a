/- What a law is called with. No condition. -/
import Derived.Test.YtbbobpjcbnfpfaaDoorTrDlIn
import Derived.Test.YtbbobpjcbnfpfaaDoorLawTrRoots
namespace Go.Proofs.YtbbobpjcbnfpfaaDoor
open Go.ChangeShapes Go.WideShapes Go.ChangeAt Go.RowKit
theorem total_mem (xs : List SlR) (x : SlR) (h : x ∈ xs) : x.d.length ≤ total xs := by
  unfold total
  induction xs with
  | nil => cases h
  | cons y ys ih =>
    rw [List.map_cons, List.sum_cons]
    rcases List.mem_cons.1 h with rfl | h
    · omega
    · have := ih h
      omega
theorem cellsLs : Tryd.prog.cellsOf 25 = 1 := by kernel_rfl
theorem cellsWd : Tryd.prog.cellsOf 27 = 66 := by kernel_rfl
set_option maxRecDepth 100000 in
theorem words_in {H : Type} {enc : TypeId × Value → H} {W : World} {base : Nat} {v : Value} {d : DataW H} {p : List MemPlace} (hv : Value.okWide Tryd.prog W .any base 27 v) (h : DataW.Trod enc Tryd.prog W 0 (fun _ => true) true 27 v d p) :
    ∃ b : Wd, v = .agg b.cells.toArray ∧ (Rows.uptoBulk d ≤ 1048576 → b.In W) := by
  simp only [Value.okWide, Tryd.underlying27] at hv
  obtain ⟨ca, rfl, _⟩ := hv
  obtain ⟨fuel, hf⟩ := h
  obtain ⟨xs, m, _, hxd, hcl, hxl, hfd⟩ := DataW.trod_struct Tryd.underlying27 hf
  rw [cellsWd] at hcl
  obtain ⟨cs, hcs⟩ : ∃ cs, cs = (Value.agg ca).cells.toList := ⟨_, rfl⟩
  rw [← hcs] at hfd hcl
  match xs, hxl with
  | [x0, x1, x2, x3], _ =>
    have h0 : DataW.trod enc Tryd.prog W 0 (fun _ => true) true m 22 ((cs.drop 0).take 1) = some x0 := by have := hfd 0 _ rfl; simpa [cellsBy] using this
    have h1 : DataW.trod enc Tryd.prog W 0 (fun _ => true) true m 24 ((cs.drop 1).take 32) = some x1 := by have := hfd 1 _ rfl; simpa [cells32] using this
    have h2 : DataW.trod enc Tryd.prog W 0 (fun _ => true) true m 24 ((cs.drop 33).take 32) = some x2 := by have := hfd 2 _ rfl; simpa [cells32] using this
    have h3 : DataW.trod enc Tryd.prog W 0 (fun _ => true) true m 25 ((cs.drop 65).take 1) = some x3 := by have := hfd 3 _ rfl; simpa [cellsLs] using this
    obtain ⟨a0, l0, c0, e0⟩ := slice_cell Tryd.underlying22 h0
    rw [e0] at h0
    obtain ⟨b0, k0, r0, u0⟩ := bytes_in (enc := enc) (W := W) (a0 := a0) (len := l0) (cap := c0) (d := x0.1) (p := x0.2) ⟨m, h0⟩
    obtain ⟨g1, e1⟩ := arr_in Tryd.underlying24 cells32 h1
    obtain ⟨g2, e2⟩ := arr_in Tryd.underlying24 cells32 h2
    obtain ⟨a3, l3, c3, e3⟩ := slice_cell Tryd.underlying25 h3
    rw [e3] at h3
    obtain ⟨b3, k3, r3, q3, v3, u3⟩ := lists_in (enc := enc) (W := W) (a0 := a3) (len := l3) (cap := c3) (d := x3.1) (p := x3.2) ⟨m, h3⟩
    refine ⟨⟨⟨a0, c0, b0⟩, g1.1, g2.1, a3, c3, b3⟩, ?_, fun hb => ?_⟩
    · have e : cs = Wd.cells ⟨⟨a0, c0, b0⟩, g1.1, g2.1, a3, c3, b3⟩ := by
        have t9 : (cs.drop 65).take 1 = cs.drop 65 := List.take_of_length_le (by simp; omega)
        have s := cut_at cs 0 1 1 rfl
        rw [cut_at cs 1 32 33 rfl, cut_at cs 33 32 65 rfl, ← t9, e0, e1, e2, e3] at s
        rw [List.drop_zero] at s
        rw [s]
        simp [Wd.cells, SlR.v, k0, k3]
      rw [← e, hcs]
      simp [Value.cells]
    · have hd : d = .agg [x0.1, x1.1, x2.1, x3.1] := (Prod.mk.inj hxd).1
      rw [hd] at hb
      simp only [Rows.uptoBulk, Rows.uptoBulkAll] at hb
      exact ⟨r0, g1.2, g2.2, ⟨r3, q3, fun x hx => by have := total_mem b3 x hx; omega, by simp only; omega⟩, by simp only; omega, by simp only; omega⟩
end Go.Proofs.YtbbobpjcbnfpfaaDoor
