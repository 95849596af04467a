/- What TreeOneLeaf is called with. No condition. -/
import Derived.Test.YtbbobpjcbnfpfaaDoorCloseT
import Derived.Test.YtbbobpjcbnfpfaaDoorLawTrOneLeaf
namespace Go.Proofs.YtbbobpjcbnfpfaaDoor
open Go.ChangeShapes Go.WideShapes Go.ChangeAt Go.RowKit
theorem cellsBy : Tryd.prog.cellsOf 22 = 1 := by kernel_rfl
theorem cellsDl : Tryd.prog.cellsOf 42 = 1 := by kernel_rfl
theorem cellsFl : Tryd.prog.cellsOf 56 = 38 := by kernel_rfl
set_option maxRecDepth 100000 in
/-- A list of digests that came in. -/
theorem digs_in {H : Type} {enc : TypeId × Value → H} {W : World} {a0 : Option Addr} {len cap : Nat} {d : DataW H} {p : List MemPlace} (h : DataW.Trod enc Tryd.prog W 0 (fun _ => true) true 42 (.slice a0 len cap) d p) :
    ∃ xs : List Bs, xs.length = len ∧ RdD W a0 cap xs ∧ All32 xs ∧ len ≤ Rows.uptoBulk d := by
  obtain ⟨xs, h1, h2, h3, _, h5⟩ := structs_in (α := Bs) 32 dgc (fun x => x.length = 32) (fun _ => 0) Tryd.underlying42 cells32 (by decide) dgc_len (by
    intro n cs d p hl hc
    obtain ⟨l, hl2⟩ := arr_in Tryd.underlying24 cells32 hc
    exact ⟨l.1, by rw [hl2, dgc_of l.2], l.2, by omega⟩) h
  exact ⟨xs, h1, h2, h3, h5⟩
theorem split1 (cs : List Value) (k n : Nat) (h : n = k + 1) (hl : cs.length = n) : (cs.drop k).take 1 = cs.drop k := List.take_of_length_le (by simp; omega)
set_option maxRecDepth 100000 in
theorem fooled_in {H : Type} {enc : TypeId × Value → H} {W : World} {base : Nat} {v : Value} {d : DataW H} {p : List MemPlace} (hv : Value.okWide Tryd.prog W .any base 56 v) (h : DataW.Trod enc Tryd.prog W 0 (fun _ => true) true 56 v d p) :
    ∃ b : Fl, v = .agg b.cells.toArray ∧ (Rows.uptoBulk d ≤ 1048576 → b.In W) := by
  simp only [Value.okWide, Tryd.underlying56] at hv
  obtain ⟨ca, rfl, _⟩ := hv
  obtain ⟨fuel, hf⟩ := h
  obtain ⟨xs, m, _, hxd, hcl, hxl, hfd⟩ := DataW.trod_struct Tryd.underlying56 hf
  rw [cellsFl] at hcl
  obtain ⟨cs, hcs⟩ : ∃ cs, cs = (Value.agg ca).cells.toList := ⟨_, rfl⟩
  rw [← hcs] at hfd hcl
  match xs, hxl with
  | [x0, x1, x2, x3, x4, x5, x6], _ =>
    have h0 : DataW.trod enc Tryd.prog W 0 (fun _ => true) true m 24 ((cs.drop 0).take 32) = some x0 := by have := hfd 0 _ rfl; simpa [cells32] using this
    have h1 : DataW.trod enc Tryd.prog W 0 (fun _ => true) true m 3 ((cs.drop 32).take 1) = some x1 := by have := hfd 1 _ rfl; simpa [cellsI] using this
    have h2 : DataW.trod enc Tryd.prog W 0 (fun _ => true) true m 3 ((cs.drop 33).take 1) = some x2 := by have := hfd 2 _ rfl; simpa [cellsI] using this
    have h3 : DataW.trod enc Tryd.prog W 0 (fun _ => true) true m 22 ((cs.drop 34).take 1) = some x3 := by have := hfd 3 _ rfl; simpa [cellsBy] using this
    have h4 : DataW.trod enc Tryd.prog W 0 (fun _ => true) true m 42 ((cs.drop 35).take 1) = some x4 := by have := hfd 4 _ rfl; simpa [cellsDl] using this
    have h5 : DataW.trod enc Tryd.prog W 0 (fun _ => true) true m 22 ((cs.drop 36).take 1) = some x5 := by have := hfd 5 _ rfl; simpa [cellsBy] using this
    have h6 : DataW.trod enc Tryd.prog W 0 (fun _ => true) true m 42 ((cs.drop 37).take 1) = some x6 := by have := hfd 6 _ rfl; simpa [cellsDl] using this
    obtain ⟨r, e0⟩ := arr_in Tryd.underlying24 cells32 h0
    obtain ⟨n1, e1, _, w1⟩ := DataW.trod_int Tryd.underlying3 h1
    obtain ⟨n2, e2, _, w2⟩ := DataW.trod_int Tryd.underlying3 h2
    obtain ⟨a3, l3, c3, e3⟩ := slice_cell Tryd.underlying22 h3
    obtain ⟨a4, l4, c4, e4⟩ := slice_cell Tryd.underlying42 h4
    obtain ⟨a5, l5, c5, e5⟩ := slice_cell Tryd.underlying22 h5
    obtain ⟨a6, l6, c6, e6⟩ := slice_cell Tryd.underlying42 h6
    rw [e3] at h3
    rw [e4] at h4
    rw [e5] at h5
    rw [e6] at h6
    obtain ⟨b3, k3, r3, u3⟩ := bytes_in (enc := enc) (W := W) (a0 := a3) (len := l3) (cap := c3) (d := x3.1) (p := x3.2) ⟨m, h3⟩
    obtain ⟨b4, k4, r4, q4, u4⟩ := digs_in (enc := enc) (W := W) (a0 := a4) (len := l4) (cap := c4) (d := x4.1) (p := x4.2) ⟨m, h4⟩
    obtain ⟨b5, k5, r5, u5⟩ := bytes_in (enc := enc) (W := W) (a0 := a5) (len := l5) (cap := c5) (d := x5.1) (p := x5.2) ⟨m, h5⟩
    obtain ⟨b6, k6, r6, q6, u6⟩ := digs_in (enc := enc) (W := W) (a0 := a6) (len := l6) (cap := c6) (d := x6.1) (p := x6.2) ⟨m, h6⟩
    have i1 := int64_of w1
    have i2 := int64_of w2
    refine ⟨⟨r.1, n1, n2, ⟨a3, c3, b3⟩, a4, c4, b4, ⟨a5, c5, b5⟩, a6, c6, b6⟩, ?_, fun hb => ?_⟩
    · have e : cs = Fl.cells ⟨r.1, n1, n2, ⟨a3, c3, b3⟩, a4, c4, b4, ⟨a5, c5, b5⟩, a6, c6, b6⟩ := by
        have t9 : (cs.drop 37).take 1 = cs.drop 37 := List.take_of_length_le (by simp; omega)
        have s := cut_at cs 0 32 32 rfl
        rw [cut_at cs 32 1 33 rfl, cut_at cs 33 1 34 rfl, cut_at cs 34 1 35 rfl, cut_at cs 35 1 36 rfl, cut_at cs 36 1 37 rfl, ← t9, e0, e1, e2, e3, e4, e5, e6] at s
        rw [List.drop_zero] at s
        rw [s]
        simp [Fl.cells, SlR.v, k3, k4, k5, k6]
      rw [← e, hcs]
      simp [Value.cells]
    · have hd : d = .agg [x0.1, x1.1, x2.1, x3.1, x4.1, x5.1, x6.1] := (Prod.mk.inj hxd).1
      rw [hd] at hb
      simp only [Rows.uptoBulk, Rows.uptoBulkAll] at hb
      exact ⟨r.2, i1.1, i1.2, i2.1, i2.2, r3, r4, r5, r6, q4, q6, by simp only; omega, by simp only; omega, by simp only; omega, by simp only; omega⟩
end Go.Proofs.YtbbobpjcbnfpfaaDoor
