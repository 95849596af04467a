/- A step of wire's laws that came in. No condition. -/
import Derived.Test.YtnmcbdppbpfegaaPostInts
import Derived.Test.YtnmcbdppbpfegaaWpLaw
namespace Go.Proofs.Ytnmcbdppbpfegaa
open Go.ChangeShapes Go.WideShapes Go.ChangeAt Go.RowKit
theorem cells64 : Try.prog.cellsOf 44 = 1 := by kernel_rfl
theorem cellsWd : Try.prog.cellsOf 46 = 4 := by kernel_rfl
theorem cellsB : Try.prog.cellsOf 22 = 1 := by kernel_rfl
theorem cellsLI : Try.prog.cellsOf 31 = 1 := by kernel_rfl
theorem cellsSp : Try.prog.cellsOf 48 = 8 := by kernel_rfl
/-- An array of wide words that came in. -/
theorem arr64_in {H : Type} {enc : TypeId × Value → H} {W : World} {t : TypeId} {n k : Nat} (ht : Try.prog.underlying t = some (.array k 44)) (hc : Try.prog.cellsOf t = k) {cs : List Value} {x : DataW H × List MemPlace} (h : DataW.trod enc Try.prog W 0 (fun _ => true) true n t cs = some x) :
    ∃ d : {l : List UInt64 // l.length = k}, cs = d.1.map V64 := by
  obtain ⟨xs, m, _, _, hl, hxl, hx⟩ := DataW.trod_array ht h
  rw [hc] at hl
  have hz : ∀ i, i < k → ∃ z : UInt64, cs[i]? = some (V64 z) := by
    intro i hi
    have h1 := hx i hi
    rw [cells64, Nat.mul_one, List.getElem?_eq_getElem (show i < xs.length by omega)] at h1
    obtain ⟨n, e1, _, hw⟩ := DataW.trod_int Try.underlying44 h1
    have h3 : (0 : Int) ≤ n ∧ n ≤ 18446744073709551615 := by
      simp only [Lit.wf, Bool.and_eq_true, decide_eq_true_eq] at hw
      exact hw
    have e2 : cs[i]? = some (.int .u64 n) := by
      have := congrArg (·[0]?) e1
      simpa [List.getElem?_take, List.getElem?_drop] using this
    refine ⟨UInt64.ofNat n.toNat, ?_⟩
    have h4 : (((UInt64.ofNat n.toNat).toNat : Nat) : Int) = n := by
      rw [UInt64.toNat_ofNat']
      omega
    rw [e2]
    unfold V64
    rw [h4]
  obtain ⟨f, hfz⟩ := Go.Deep.choose_lt hz
  refine ⟨⟨(List.range k).map f, by simp⟩, ?_⟩
  apply List.ext_getElem?
  intro i
  by_cases hi : i < k
  · rw [hfz i hi]
    simp [hi]
  · rw [List.getElem?_eq_none (by omega), List.getElem?_eq_none (by simp; omega)]
theorem split8 (cs : List Value) (h : cs.length = 8) : cs = (cs.drop 0).take 1 ++ ((cs.drop 1).take 1 ++ ((cs.drop 2).take 1 ++ ((cs.drop 3).take 4 ++ (cs.drop 7).take 1))) := by
  have e9 : (cs.drop 7).take 1 = cs.drop 7 := List.take_of_length_le (by simp; omega)
  rw [e9, ← cut_at cs 3 4 7 rfl, ← cut_at cs 2 1 3 rfl, ← cut_at cs 1 1 2 rfl, ← cut_at cs 0 1 1 rfl, List.drop_zero]
/-- What is known of a step that came in. -/
structure SpIn (W : World) (s : Sp) (m : Nat) : Prop where
  k0 : -9223372036854775808 ≤ s.kind
  k1 : s.kind ≤ 9223372036854775807
  n0 : -9223372036854775808 ≤ s.n
  n1 : s.n ≤ 9223372036854775807
  rd : Rd V8 W s.bp s.bcap s.b
  rl : Rd VI W s.lp s.lcap s.l
  il : ∀ c ∈ s.l, -9223372036854775808 ≤ c ∧ c ≤ 9223372036854775807
  sum : s.b.length + s.l.length ≤ m
theorem SpIn.ok {W : World} {s : Sp} {m : Nat} (h : SpIn W s m) (hm : m ≤ 549755813888) : SpOk W W.heap.size s :=
  ⟨h.n0, h.n1, h.rd, h.rd.lt, by have := h.sum; omega⟩
set_option maxRecDepth 100000 in
/-- A step that came in. -/
theorem sp_cells {H : Type} {enc : TypeId × Value → H} {W : World} {n : Nat} {cs : List Value} {x : DataW H × List MemPlace} (h : DataW.trod enc Try.prog W 0 (fun _ => true) true n 48 cs = some x) :
    ∃ s : Sp, cs = s.cells ∧ SpIn W s (Rows.uptoBulk x.1) := by
  obtain ⟨xs, m, _, hxd, hcl, hxl, hf⟩ := DataW.trod_struct Try.underlying48 h
  rw [cellsSp] at hcl
  match xs, hxl with
  | [x0, x1, x2, x3, x4], _ =>
    have h0 : DataW.trod enc Try.prog W 0 (fun _ => true) true m 3 ((cs.drop 0).take 1) = some x0 := by have := hf 0 _ rfl; simpa [cellsI] using this
    have h1 : DataW.trod enc Try.prog W 0 (fun _ => true) true m 3 ((cs.drop 1).take 1) = some x1 := by have := hf 1 _ rfl; simpa [cellsI] using this
    have h2 : DataW.trod enc Try.prog W 0 (fun _ => true) true m 22 ((cs.drop 2).take 1) = some x2 := by have := hf 2 _ rfl; simpa [cellsB] using this
    have h3 : DataW.trod enc Try.prog W 0 (fun _ => true) true m 46 ((cs.drop 3).take 4) = some x3 := by have := hf 3 _ rfl; simpa [cellsWd] using this
    have h4 : DataW.trod enc Try.prog W 0 (fun _ => true) true m 31 ((cs.drop 7).take 1) = some x4 := by have := hf 4 _ rfl; simpa [cellsLI] using this
    obtain ⟨n0, e0, _, w0⟩ := DataW.trod_int Try.underlying3 h0
    obtain ⟨n1, e1, _, w1⟩ := DataW.trod_int Try.underlying3 h1
    obtain ⟨a2, l2, c2, e2⟩ := slice_cell Try.underlying22 h2
    obtain ⟨d3, e3⟩ := arr64_in Try.underlying46 cellsWd h3
    obtain ⟨a4, l4, c4, e4⟩ := slice_cell Try.underlying31 h4
    rw [e2] at h2
    rw [e4] at h4
    obtain ⟨b, hb, hr, hbb⟩ := bytes_in (d := x2.1) (p := x2.2) ⟨m, h2⟩
    obtain ⟨l, hl, hr4, hi4, hb4⟩ := ints_in (d := x4.1) (p := x4.2) ⟨m, h4⟩
    subst hb
    subst hl
    refine ⟨⟨n0, n1, a2, c2, b, d3, a4, c4, l⟩, ?_, ⟨(int64_of w0).1, (int64_of w0).2, (int64_of w1).1, (int64_of w1).2, hr, hr4, hi4, ?_⟩⟩
    · rw [split8 cs hcl, e0, e1, e2, e3, e4]
      rfl
    · simp only [List.map_cons, List.map_nil] at hxd
      rw [hxd]
      simp only [Rows.uptoBulk, Rows.uptoBulkAll]
      show b.length + l.length ≤ _
      omega
set_option maxRecDepth 100000 in
/-- A step that came in as an argument. -/
theorem sp_in {H : Type} {enc : TypeId × Value → H} {W : World} {base : Nat} {v : Value} {d : DataW H} {p : List MemPlace} (hv : Value.okWide Try.prog W .any base 48 v) (h : DataW.Trod enc Try.prog W 0 (fun _ => true) true 48 v d p) :
    ∃ s : Sp, v = spv s ∧ SpIn W s (Rows.uptoBulk d) := by
  simp only [Value.okWide, Try.underlying48] at hv
  obtain ⟨cs, rfl, hsz, _⟩ := hv
  obtain ⟨fuel, hf⟩ := h
  obtain ⟨s, hs, hi⟩ := sp_cells hf
  refine ⟨s, ?_, hi⟩
  have hs : cs.toList = s.cells := hs
  unfold spv
  rw [← Array.toArray_toList (xs := cs), hs]
instance : Inhabited Sp := ⟨⟨0, 0, none, 0, [], ⟨[0, 0, 0, 0], rfl⟩, none, 0, []⟩⟩
/-- The steps that came in. -/
theorem spsteps_in {H : Type} {enc : TypeId × Value → H} {W : World} {a0 : Option Addr} {len cap : Nat} {d : DataW H} {p : List MemPlace} (h : DataW.Trod enc Try.prog W 0 (fun _ => true) true 40 (.slice a0 len cap) d p) :
    ∃ xs : List Sp, xs.length = len ∧ RdN 8 Sp.cells W a0 cap xs ∧ (∀ s ∈ xs, ∃ m, SpIn W s m) ∧ (xs.map fun s => s.b.length + s.l.length).sum ≤ Rows.uptoBulk d ∧ len ≤ Rows.uptoBulk d :=
  structs_in (α := Sp) 8 Sp.cells (fun s => ∃ m, SpIn W s m) (fun s => s.b.length + s.l.length) Try.underlying40 cellsSp (by omega) Sp.len (fun _ _ _ _ _ h => let ⟨s, hs, hi⟩ := sp_cells h; ⟨s, hs, ⟨_, hi⟩, hi.sum⟩) h
def sp0 : Sp := ⟨0, 0, none, 0, [], ⟨[0, 0, 0, 0], rfl⟩, none, 0, []⟩
end Go.Proofs.Ytnmcbdppbpfegaa
