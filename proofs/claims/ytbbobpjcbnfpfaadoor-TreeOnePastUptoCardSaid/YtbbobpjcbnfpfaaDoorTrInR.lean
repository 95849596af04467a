/- What a law is called with. No condition. -/
import Derived.Test.YtbbobpjcbnfpfaaDoorTrDlIn
import Derived.Test.YtbbobpjcbnfpfaaDoorLawTrOnePast
namespace Go.Proofs.YtbbobpjcbnfpfaaDoor
open Go.ChangeShapes Go.WideShapes Go.ChangeAt Go.RowKit
theorem cellsPs : Tryd.prog.cellsOf 64 = 67 := by kernel_rfl
set_option maxRecDepth 100000 in
theorem past_cells {H : Type} {enc : TypeId × Value → H} {W : World} {fuel : Nat} {cs : List Value} {d : DataW H} {p : List MemPlace} (hf : DataW.trod enc Tryd.prog W 0 (fun _ => true) true fuel 64 cs = some (d, p)) :
    ∃ b : Ps, cs = b.cells ∧ (Rows.uptoBulk d ≤ 1048576 → b.In W) := by
  obtain ⟨xs, m, _, hxd, hcl, hxl, hfd⟩ := DataW.trod_struct Tryd.underlying64 hf
  rw [cellsPs] at hcl
  match xs, hxl with
  | [x0, x1, x2, x3, x4], _ =>
    have h0 : DataW.trod enc Tryd.prog W 0 (fun _ => true) true m 24 ((cs.drop 0).take 32) = some x0 := by have := hfd 0 _ rfl; simpa [cells32] using this
    have h1 : DataW.trod enc Tryd.prog W 0 (fun _ => true) true m 3 ((cs.drop 32).take 1) = some x1 := by have := hfd 1 _ rfl; simpa [cellsI] using this
    have h2 : DataW.trod enc Tryd.prog W 0 (fun _ => true) true m 24 ((cs.drop 33).take 32) = some x2 := by have := hfd 2 _ rfl; simpa [cells32] using this
    have h3 : DataW.trod enc Tryd.prog W 0 (fun _ => true) true m 3 ((cs.drop 65).take 1) = some x3 := by have := hfd 3 _ rfl; simpa [cellsI] using this
    have h4 : DataW.trod enc Tryd.prog W 0 (fun _ => true) true m 42 ((cs.drop 66).take 1) = some x4 := by have := hfd 4 _ rfl; simpa [cellsDl] using this
    obtain ⟨g0, e0⟩ := arr_in Tryd.underlying24 cells32 h0
    obtain ⟨n1, e1, _, w1⟩ := DataW.trod_int Tryd.underlying3 h1
    have i1 := int64_of w1
    obtain ⟨g2, e2⟩ := arr_in Tryd.underlying24 cells32 h2
    obtain ⟨n3, e3, _, w3⟩ := DataW.trod_int Tryd.underlying3 h3
    have i3 := int64_of w3
    obtain ⟨a4, l4, c4, e4⟩ := slice_cell Tryd.underlying42 h4
    rw [e4] at h4
    obtain ⟨b4, k4, r4, q4, u4⟩ := digs_in (enc := enc) (W := W) (a0 := a4) (len := l4) (cap := c4) (d := x4.1) (p := x4.2) ⟨m, h4⟩
    refine ⟨⟨g0.1, n1, g2.1, n3, a4, c4, b4⟩, ?_, fun hb => ?_⟩
    · have e : cs = Ps.cells ⟨g0.1, n1, g2.1, n3, a4, c4, b4⟩ := by
        have t9 : (cs.drop 66).take 1 = cs.drop 66 := List.take_of_length_le (by simp; omega)
        have s := cut_at cs 0 32 32 rfl
        rw [cut_at cs 32 1 33 rfl, cut_at cs 33 32 65 rfl, cut_at cs 65 1 66 rfl, ← t9, e0, e1, e2, e3, e4] at s
        rw [List.drop_zero] at s
        rw [s]
        simp [Ps.cells, SlR.v, k4]
      exact e
    · have hd : d = .agg [x0.1, x1.1, x2.1, x3.1, x4.1] := (Prod.mk.inj hxd).1
      rw [hd] at hb
      simp only [Rows.uptoBulk, Rows.uptoBulkAll] at hb
      exact ⟨g0.2, g2.2, i1.1, i1.2, i3.1, i3.2, r4, q4, by simp only; omega⟩
theorem cellsRw : Tryd.prog.cellsOf 68 = 72 := by kernel_rfl
set_option maxRecDepth 100000 in
theorem rewritten_in {H : Type} {enc : TypeId × Value → H} {W : World} {base : Nat} {v : Value} {d : DataW H} {p : List MemPlace} (hv : Value.okWide Tryd.prog W .any base 68 v) (h : DataW.Trod enc Tryd.prog W 0 (fun _ => true) true 68 v d p) :
    ∃ b : Rw, v = .agg b.cells.toArray ∧ (Rows.uptoBulk d ≤ 1048576 → b.In W) := by
  simp only [Value.okWide, Tryd.underlying68] at hv
  obtain ⟨ca, rfl, _⟩ := hv
  obtain ⟨fuel, hf⟩ := h
  obtain ⟨xs, m, _, hxd, hcl, hxl, hfd⟩ := DataW.trod_struct Tryd.underlying68 hf
  rw [cellsRw] at hcl
  obtain ⟨cs, hcs⟩ : ∃ cs, cs = (Value.agg ca).cells.toList := ⟨_, rfl⟩
  rw [← hcs] at hfd hcl
  match xs, hxl with
  | [x0, x1, x2, x3, x4, x5], _ =>
    have h0 : DataW.trod enc Tryd.prog W 0 (fun _ => true) true m 64 ((cs.drop 0).take 67) = some x0 := by have := hfd 0 _ rfl; simpa [cellsPs] using this
    have h1 : DataW.trod enc Tryd.prog W 0 (fun _ => true) true m 3 ((cs.drop 67).take 1) = some x1 := by have := hfd 1 _ rfl; simpa [cellsI] using this
    have h2 : DataW.trod enc Tryd.prog W 0 (fun _ => true) true m 22 ((cs.drop 68).take 1) = some x2 := by have := hfd 2 _ rfl; simpa [cellsBy] using this
    have h3 : DataW.trod enc Tryd.prog W 0 (fun _ => true) true m 42 ((cs.drop 69).take 1) = some x3 := by have := hfd 3 _ rfl; simpa [cellsDl] using this
    have h4 : DataW.trod enc Tryd.prog W 0 (fun _ => true) true m 22 ((cs.drop 70).take 1) = some x4 := by have := hfd 4 _ rfl; simpa [cellsBy] using this
    have h5 : DataW.trod enc Tryd.prog W 0 (fun _ => true) true m 42 ((cs.drop 71).take 1) = some x5 := by have := hfd 5 _ rfl; simpa [cellsDl] using this
    obtain ⟨g0, e0, q0⟩ := past_cells (enc := enc) (W := W) (d := x0.1) (p := x0.2) h0
    obtain ⟨n1, e1, _, w1⟩ := DataW.trod_int Tryd.underlying3 h1
    have i1 := int64_of w1
    obtain ⟨a2, l2, c2, e2⟩ := slice_cell Tryd.underlying22 h2
    rw [e2] at h2
    obtain ⟨b2, k2, r2, u2⟩ := bytes_in (enc := enc) (W := W) (a0 := a2) (len := l2) (cap := c2) (d := x2.1) (p := x2.2) ⟨m, h2⟩
    obtain ⟨a3, l3, c3, e3⟩ := slice_cell Tryd.underlying42 h3
    rw [e3] at h3
    obtain ⟨b3, k3, r3, q3, u3⟩ := digs_in (enc := enc) (W := W) (a0 := a3) (len := l3) (cap := c3) (d := x3.1) (p := x3.2) ⟨m, h3⟩
    obtain ⟨a4, l4, c4, e4⟩ := slice_cell Tryd.underlying22 h4
    rw [e4] at h4
    obtain ⟨b4, k4, r4, u4⟩ := bytes_in (enc := enc) (W := W) (a0 := a4) (len := l4) (cap := c4) (d := x4.1) (p := x4.2) ⟨m, h4⟩
    obtain ⟨a5, l5, c5, e5⟩ := slice_cell Tryd.underlying42 h5
    rw [e5] at h5
    obtain ⟨b5, k5, r5, q5, u5⟩ := digs_in (enc := enc) (W := W) (a0 := a5) (len := l5) (cap := c5) (d := x5.1) (p := x5.2) ⟨m, h5⟩
    refine ⟨⟨g0, n1, ⟨a2, c2, b2⟩, a3, c3, b3, ⟨a4, c4, b4⟩, a5, c5, b5⟩, ?_, fun hb => ?_⟩
    · have e : cs = Rw.cells ⟨g0, n1, ⟨a2, c2, b2⟩, a3, c3, b3, ⟨a4, c4, b4⟩, a5, c5, b5⟩ := by
        have t9 : (cs.drop 71).take 1 = cs.drop 71 := List.take_of_length_le (by simp; omega)
        have s := cut_at cs 0 67 67 rfl
        rw [cut_at cs 67 1 68 rfl, cut_at cs 68 1 69 rfl, cut_at cs 69 1 70 rfl, cut_at cs 70 1 71 rfl, ← t9, e0, e1, e2, e3, e4, e5] at s
        rw [List.drop_zero] at s
        rw [s]
        simp [Rw.cells, Rw.tail, SlR.v, k2, k3, k4, k5]
      rw [← e, hcs]
      simp [Value.cells]
    · have hd : d = .agg [x0.1, x1.1, x2.1, x3.1, x4.1, x5.1] := (Prod.mk.inj hxd).1
      rw [hd] at hb
      simp only [Rows.uptoBulk, Rows.uptoBulkAll] at hb
      exact ⟨q0 (by omega), i1.1, i1.2, r2, r3, r4, r5, q3, q5, by simp only; omega, by simp only; omega, by simp only; omega, by simp only; omega⟩
end Go.Proofs.YtbbobpjcbnfpfaaDoor
