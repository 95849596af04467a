/- What TreeLogs is called with. No condition. -/
import Derived.Test.YtbbobpjcbnfpfaaDoorTrDlIn
import Derived.Test.YtbbobpjcbnfpfaaDoorTrLogs
namespace Go.Proofs.YtbbobpjcbnfpfaaDoor
open Go.ChangeShapes Go.WideShapes Go.ChangeAt Go.RowKit
instance : Inhabited Lo := ⟨⟨0, 0, 0, ⟨none, 0, []⟩, none, 0, []⟩⟩
theorem cellsLo : Tryd.prog.cellsOf 80 = 5 := by kernel_rfl
/-- What is known of a step whatever its size. -/
structure Lo.Q (W : World) (x : Lo) : Prop where
  o0 : -9223372036854775808 ≤ x.on
  o1 : x.on ≤ 9223372036854775807
  leaf : Rd V8 W x.leaf.p x.leaf.cap x.leaf.d
  front : RdD W x.fp x.fc x.front
  f32 : All32 x.front
def Lo.bulk (x : Lo) : Nat := x.leaf.d.length + x.front.length
set_option maxRecDepth 100000 in
theorem op_in {H : Type} {enc : TypeId × Value → H} {W : World} (n : Nat) (cs : List Value) (d : DataW H) (p : List MemPlace) (hl : cs.length = 5) (h : DataW.trod enc Tryd.prog W 0 (fun _ => true) true n 80 cs = some (d, p)) :
    ∃ x : Lo, cs = x.cells ∧ x.Q W ∧ x.bulk ≤ Rows.uptoBulk d := by
  obtain ⟨xs, m, _, hxd, hcl, hxl, hfd⟩ := DataW.trod_struct Tryd.underlying80 h
  match cs, hl with
  | [c0, c1, c2, c3, c4], _ =>
    match xs, hxl with
    | [x0, x1, x2, x3, x4], _ =>
      have h0 : DataW.trod enc Tryd.prog W 0 (fun _ => true) true m 3 [c0] = some x0 := by have := hfd 0 _ rfl; simpa [cellsI] using this
      have h1 : DataW.trod enc Tryd.prog W 0 (fun _ => true) true m 3 [c1] = some x1 := by have := hfd 1 _ rfl; simpa [cellsI] using this
      have h2 : DataW.trod enc Tryd.prog W 0 (fun _ => true) true m 3 [c2] = some x2 := by have := hfd 2 _ rfl; simpa [cellsI] using this
      have h3 : DataW.trod enc Tryd.prog W 0 (fun _ => true) true m 22 [c3] = some x3 := by have := hfd 3 _ rfl; simpa [cellsBy] using this
      have h4 : DataW.trod enc Tryd.prog W 0 (fun _ => true) true m 42 [c4] = some x4 := by have := hfd 4 _ rfl; simpa [cellsDl] using this
      obtain ⟨n0, e0, _, _⟩ := DataW.trod_int Tryd.underlying3 h0
      obtain ⟨n1, e1, _, w1⟩ := DataW.trod_int Tryd.underlying3 h1
      obtain ⟨n2, e2, _, _⟩ := DataW.trod_int Tryd.underlying3 h2
      injection e0 with e0
      injection e1 with e1
      injection e2 with e2
      subst e0 e1 e2
      obtain ⟨a3, l3, c3', e3⟩ := slice_cell Tryd.underlying22 h3
      injection e3 with e3
      subst e3
      obtain ⟨a4, l4, c4', e4⟩ := slice_cell Tryd.underlying42 h4
      injection e4 with e4
      subst e4
      obtain ⟨b3, k3, r3, u3⟩ := bytes_in (enc := enc) (W := W) (a0 := a3) (len := l3) (cap := c3') (d := x3.1) (p := x3.2) ⟨m, h3⟩
      obtain ⟨b4, k4, r4, q4, u4⟩ := digs_in (enc := enc) (W := W) (a0 := a4) (len := l4) (cap := c4') (d := x4.1) (p := x4.2) ⟨m, h4⟩
      subst k3 k4
      have i1 := int64_of w1
      refine ⟨⟨n0, n1, n2, ⟨a3, c3', b3⟩, a4, c4', b4⟩, rfl, ⟨i1.1, i1.2, r3, r4, q4⟩, ?_⟩
      have hd : d = .agg [x0.1, x1.1, x2.1, x3.1, x4.1] := (Prod.mk.inj hxd).1
      rw [hd]
      simp only [Rows.uptoBulk, Rows.uptoBulkAll, Lo.bulk]
      omega
theorem sum_mem (xs : List Lo) (x : Lo) (h : x ∈ xs) : x.bulk ≤ (xs.map Lo.bulk).sum := by
  induction xs with
  | nil => cases h
  | cons y ys ih =>
    rw [List.map_cons, List.sum_cons]
    rcases List.mem_cons.1 h with rfl | h
    · omega
    · have := ih h; omega
/-- A script that came in. -/
theorem ops_in {H : Type} {enc : TypeId × Value → H} {W : World} {a0 : Option Addr} {len cap : Nat} {d : DataW H} {p : List MemPlace} (h : DataW.Trod enc Tryd.prog W 0 (fun _ => true) true 72 (.slice a0 len cap) d p) :
    ∃ xs : List Lo, xs.length = len ∧ RdN 5 Lo.cells W a0 cap xs ∧ (Rows.uptoBulk d ≤ 1048576 → ∀ x ∈ xs, x.In W) ∧ len ≤ Rows.uptoBulk d := by
  obtain ⟨xs, h1, h2, h3, h4, h5⟩ := structs_in 5 Lo.cells (fun x => x.Q W) Lo.bulk Tryd.underlying72 cellsLo (by decide) Lo.cells_len (fun n cs d p hl h => op_in n cs d p hl h) h
  refine ⟨xs, h1, h2, fun hb x hx => ?_, h5⟩
  have k := h3 x hx
  have hs := sum_mem xs x hx
  have hbk : x.bulk ≤ 1048576 := by omega
  unfold Lo.bulk at hbk
  exact ⟨k.o0, k.o1, k.leaf, k.front, k.f32, by omega, by omega⟩
end Go.Proofs.YtbbobpjcbnfpfaaDoor
