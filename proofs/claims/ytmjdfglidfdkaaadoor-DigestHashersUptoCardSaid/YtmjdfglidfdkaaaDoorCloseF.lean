/- What DigestHashers is called with. -/
import Derived.Test.YtmjdfglidfdkaaaDoorCloseE
import Derived.Test.YtmjdfglidfdkaaaDoorHsLib
namespace Go.Proofs.YtmjdfglidfdkaaaDoor
open Go.ChangeShapes Go.WideShapes Go.ChangeAt Go.RowKit
instance : Inhabited OpR := ⟨⟨0, 0, 0, nilSl⟩⟩
theorem cellsOf46 : Tryd.prog.cellsOf 46 = 4 := by kernel_rfl
theorem op_in {H : Type} {enc : TypeId × Value → H} {W : World} (n : Nat) (cs : List Value) (d : DataW H) (p : List MemPlace) (hl : cs.length = 4) (h : DataW.trod enc Tryd.prog W 0 (fun _ => true) true n 46 cs = some (d, p)) :
    ∃ x : OpR, cs = x.cells ∧ (((-9223372036854775808 ≤ x.on ∧ x.on ≤ 9223372036854775807) ∧ (-9223372036854775808 ≤ x.tt ∧ x.tt ≤ 9223372036854775807)) ∧ Rd V8 W x.sl.p x.sl.cap x.sl.d) ∧ x.sl.d.length ≤ Rows.uptoBulk d := by
  obtain ⟨xs, m, rfl, hx, hcl, hxl, hf⟩ := DataW.trod_struct Tryd.underlying46 h
  match cs, hl with
  | [c0, c1, c2, c3], _ =>
    match xs, hxl with
    | [x0, x1, x2, x3], _ =>
      have h0 : DataW.trod enc Tryd.prog W 0 (fun _ => true) true m 3 [c0] = some x0 := by have := hf 0 _ rfl; simpa [cellsOf3] using this
      have h1 : DataW.trod enc Tryd.prog W 0 (fun _ => true) true m 3 [c1] = some x1 := by have := hf 1 _ rfl; simpa [cellsOf3] using this
      have h2 : DataW.trod enc Tryd.prog W 0 (fun _ => true) true m 3 [c2] = some x2 := by have := hf 2 _ rfl; simpa [cellsOf3] using this
      have h3 : DataW.trod enc Tryd.prog W 0 (fun _ => true) true m 22 [c3] = some x3 := by have := hf 3 _ rfl; simpa [cellsOf22] using this
      obtain ⟨n0, e0, _, _⟩ := DataW.trod_int Tryd.underlying3 h0
      obtain ⟨n1, e1, _, w1⟩ := DataW.trod_int Tryd.underlying3 h1
      obtain ⟨n2, e2, _, w2⟩ := DataW.trod_int Tryd.underlying3 h2
      injection e0 with e0
      injection e1 with e1
      injection e2 with e2
      subst e0 e1 e2
      have hsl : ∃ p l c, c3 = .slice p l c := by
        rcases Go.Deep.open_slice Tryd.underlying22 h3 with ⟨e, _⟩ | ⟨a1, l1, c1, _, _, _, _, e, _⟩
        · injection e with e; exact ⟨_, _, _, e⟩
        · injection e with e; exact ⟨_, _, _, e⟩
      obtain ⟨p1, l1, cc, rfl⟩ := hsl
      obtain ⟨l, hll, hr, hb⟩ := bytes_in (enc := enc) (W := W) (a0 := p1) (len := l1) (cap := cc) (d := x3.1) (p := x3.2) ⟨m, h3⟩
      subst hll
      refine ⟨⟨n0, n1, n2, ⟨p1, cc, l⟩⟩, rfl, ⟨⟨int64_of w1, int64_of w2⟩, hr⟩, ?_⟩
      simp only [Prod.mk.injEq] at hx
      obtain ⟨rfl, _⟩ := hx
      simp only [Rows.uptoBulk, Rows.uptoBulkAll, List.map_cons]
      show l.length ≤ _
      omega
/-- A script that came in. -/
theorem ops_in {H : Type} {enc : TypeId × Value → H} {W : World} {a0 : Option Addr} {len cap : Nat} {d : DataW H} {p : List MemPlace} (h : DataW.Trod enc Tryd.prog W 0 (fun _ => true) true 41 (.slice a0 len cap) d p) :
    ∃ xs : List OpR, xs.length = len ∧ RdN 4 OpR.cells W a0 cap xs ∧ (∀ x ∈ xs, ((-9223372036854775808 ≤ x.on ∧ x.on ≤ 9223372036854775807) ∧ (-9223372036854775808 ≤ x.tt ∧ x.tt ≤ 9223372036854775807)) ∧ Rd V8 W x.sl.p x.sl.cap x.sl.d) ∧ opsTotal xs ≤ Rows.uptoBulk d ∧ len ≤ Rows.uptoBulk d := by
  have h' := structs_in 4 OpR.cells _ (fun x => x.sl.d.length) Tryd.underlying41 cellsOf46 (by decide) OpR.cells_length (fun n cs d p hl h => op_in n cs d p hl h) h
  obtain ⟨xs, h1, h2, h3, h4, h5⟩ := h'
  refine ⟨xs, h1, h2, h3, ?_, h5⟩
  unfold opsTotal total
  rw [List.map_map]
  exact h4
end Go.Proofs.YtmjdfglidfdkaaaDoor
