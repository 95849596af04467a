/- What a law is called with. No condition. -/
import Derived.Test.YtbbobpjcbnfpfaaDoorTrDlIn
import Derived.Test.YtbbobpjcbnfpfaaDoorLawTrChecks
namespace Go.Proofs.YtbbobpjcbnfpfaaDoor
open Go.ChangeShapes Go.WideShapes Go.ChangeAt Go.RowKit
theorem cellsSh : Tryd.prog.cellsOf 50 = 36 := by kernel_rfl
set_option maxRecDepth 100000 in
theorem shown_in {H : Type} {enc : TypeId × Value → H} {W : World} {base : Nat} {v : Value} {d : DataW H} {p : List MemPlace} (hv : Value.okWide Tryd.prog W .any base 50 v) (h : DataW.Trod enc Tryd.prog W 0 (fun _ => true) true 50 v d p) :
    ∃ b : Sh, v = .agg b.cells.toArray ∧ (Rows.uptoBulk d ≤ 1048576 → b.In W) := by
  simp only [Value.okWide, Tryd.underlying50] at hv
  obtain ⟨ca, rfl, _⟩ := hv
  obtain ⟨fuel, hf⟩ := h
  obtain ⟨xs, m, _, hxd, hcl, hxl, hfd⟩ := DataW.trod_struct Tryd.underlying50 hf
  rw [cellsSh] at hcl
  obtain ⟨cs, hcs⟩ : ∃ cs, cs = (Value.agg ca).cells.toList := ⟨_, rfl⟩
  rw [← hcs] at hfd hcl
  match xs, hxl with
  | [x0, x1, x2, x3, x4], _ =>
    have h0 : DataW.trod enc Tryd.prog W 0 (fun _ => true) true m 24 ((cs.drop 0).take 32) = some x0 := by have := hfd 0 _ rfl; simpa [cells32] using this
    have h1 : DataW.trod enc Tryd.prog W 0 (fun _ => true) true m 3 ((cs.drop 32).take 1) = some x1 := by have := hfd 1 _ rfl; simpa [cellsI] using this
    have h2 : DataW.trod enc Tryd.prog W 0 (fun _ => true) true m 3 ((cs.drop 33).take 1) = some x2 := by have := hfd 2 _ rfl; simpa [cellsI] using this
    have h3 : DataW.trod enc Tryd.prog W 0 (fun _ => true) true m 22 ((cs.drop 34).take 1) = some x3 := by have := hfd 3 _ rfl; simpa [cellsBy] using this
    have h4 : DataW.trod enc Tryd.prog W 0 (fun _ => true) true m 42 ((cs.drop 35).take 1) = some x4 := by have := hfd 4 _ rfl; simpa [cellsDl] using this
    obtain ⟨g0, e0⟩ := arr_in Tryd.underlying24 cells32 h0
    obtain ⟨n1, e1, _, w1⟩ := DataW.trod_int Tryd.underlying3 h1
    have i1 := int64_of w1
    obtain ⟨n2, e2, _, w2⟩ := DataW.trod_int Tryd.underlying3 h2
    have i2 := int64_of w2
    obtain ⟨a3, l3, c3, e3⟩ := slice_cell Tryd.underlying22 h3
    rw [e3] at h3
    obtain ⟨b3, k3, r3, u3⟩ := bytes_in (enc := enc) (W := W) (a0 := a3) (len := l3) (cap := c3) (d := x3.1) (p := x3.2) ⟨m, h3⟩
    obtain ⟨a4, l4, c4, e4⟩ := slice_cell Tryd.underlying42 h4
    rw [e4] at h4
    obtain ⟨b4, k4, r4, q4, u4⟩ := digs_in (enc := enc) (W := W) (a0 := a4) (len := l4) (cap := c4) (d := x4.1) (p := x4.2) ⟨m, h4⟩
    refine ⟨⟨g0.1, n1, n2, ⟨a3, c3, b3⟩, a4, c4, b4⟩, ?_, fun hb => ?_⟩
    · have e : cs = Sh.cells ⟨g0.1, n1, n2, ⟨a3, c3, b3⟩, a4, c4, b4⟩ := by
        have t9 : (cs.drop 35).take 1 = cs.drop 35 := List.take_of_length_le (by simp; omega)
        have s := cut_at cs 0 32 32 rfl
        rw [cut_at cs 32 1 33 rfl, cut_at cs 33 1 34 rfl, cut_at cs 34 1 35 rfl, ← t9, e0, e1, e2, e3, e4] at s
        rw [List.drop_zero] at s
        rw [s]
        simp [Sh.cells, SlR.v, k3, k4]
      rw [← e, hcs]
      simp [Value.cells]
    · have hd : d = .agg [x0.1, x1.1, x2.1, x3.1, x4.1] := (Prod.mk.inj hxd).1
      rw [hd] at hb
      simp only [Rows.uptoBulk, Rows.uptoBulkAll] at hb
      exact ⟨g0.2, i1.1, i1.2, i2.1, i2.2, r3, r4, q4, by simp only; omega, by simp only; omega⟩
end Go.Proofs.YtbbobpjcbnfpfaaDoor
