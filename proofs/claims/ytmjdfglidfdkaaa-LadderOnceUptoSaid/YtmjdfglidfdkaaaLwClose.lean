/- What the ladder's laws are called with: a commit, numbers. No condition. -/
import Derived.Test.YtmjdfglidfdkaaaLdEq
import Derived.Test.YtmjdfglidfdkaaaChecked
import Derived.ProofKit
import Derived.OpenShut
import Derived.JoinedCond
import Derived.Deep.Slices
namespace Go.Proofs.Ytmjdfglidfdkaaa
open Go.ChangeShapes Go.WideShapes Go.ChangeAt Go.RowKit
theorem own : ownKnob Try.prog.godebug = none := by kernel_rfl
theorem laidOut : laidOutB Try.prog = true := by kernel_rfl
theorem cells8 : Try.prog.cellsOf 5 = 1 := by kernel_rfl
theorem cellsI : Try.prog.cellsOf 3 = 1 := by kernel_rfl
theorem cellsD : Try.prog.cellsOf 23 = 32 := by kernel_rfl
theorem cellsA : Try.prog.cellsOf 35 = 20 := by kernel_rfl
theorem cellsC : Try.prog.cellsOf 25 = 66 := by kernel_rfl
theorem int64_of {n : Int} (h : (Lit.int .i64 n).wf = true) : -9223372036854775808 ≤ n ∧ n ≤ 9223372036854775807 := by
  simp only [Lit.wf, Bool.and_eq_true, decide_eq_true_eq] at h
  exact h
/-- An array of bytes that came in. -/
theorem arr_in {H : Type} {enc : TypeId × Value → H} {W : World} {t : TypeId} {n k : Nat} (ht : Try.prog.underlying t = some (.array k 5)) (hc : Try.prog.cellsOf t = k) {cs : List Value} {x : DataW H × List MemPlace} (h : DataW.trod enc Try.prog W 0 (fun _ => true) true n t cs = some x) :
    ∃ d : {l : List UInt8 // l.length = k}, cs = d.1.map V8 := by
  obtain ⟨xs, m, _, _, hl, hxl, hx⟩ := DataW.trod_array ht h
  rw [hc] at hl
  have hz : ∀ i, i < k → ∃ z : UInt8, cs[i]? = some (V8 z) := by
    intro i hi
    have h1 := hx i hi
    rw [cells8, Nat.mul_one, List.getElem?_eq_getElem (show i < xs.length by omega)] at h1
    obtain ⟨n, e1, _, hw⟩ := DataW.trod_int Try.underlying5 h1
    have h3 : (0 : Int) ≤ n ∧ n ≤ 255 := by
      simp only [Lit.wf, Bool.and_eq_true, decide_eq_true_eq] at hw
      exact hw
    have e2 : cs[i]? = some (.int .u8 n) := by
      have := congrArg (·[0]?) e1
      simpa [List.getElem?_take, List.getElem?_drop] using this
    refine ⟨UInt8.ofNat n.toNat, ?_⟩
    have h4 : (((UInt8.ofNat n.toNat).toNat : Nat) : Int) = n := by
      rw [UInt8.toNat_ofNat']
      omega
    rw [e2]
    unfold V8
    rw [h4]
  obtain ⟨f, hfz⟩ := Go.Deep.choose_lt hz
  refine ⟨⟨(List.range k).map f, by simp⟩, ?_⟩
  apply List.ext_getElem?
  intro i
  by_cases hi : i < k
  · rw [hfz i hi]
    simp [hi]
  · rw [List.getElem?_eq_none (by omega), List.getElem?_eq_none (by simp; omega)]
theorem split66 (cs : List Value) (h : cs.length = 66) : cs = (cs.drop 0).take 1 ++ ((cs.drop 1).take 32 ++ ((cs.drop 33).take 32 ++ (cs.drop 65).take 1)) := by
  have e3 : cs.drop 33 = (cs.drop 33).take 32 ++ cs.drop 65 := by
    have := (List.take_append_drop 32 (cs.drop 33)).symm
    rwa [List.drop_drop] at this
  have e2 : cs.drop 1 = (cs.drop 1).take 32 ++ cs.drop 33 := by
    have := (List.take_append_drop 32 (cs.drop 1)).symm
    rwa [List.drop_drop] at this
  have e1 : cs = cs.take 1 ++ cs.drop 1 := (List.take_append_drop 1 cs).symm
  have e4 : (cs.drop 65).take 1 = cs.drop 65 := List.take_of_length_le (by simp; omega)
  rw [e4, ← e3, ← e2, List.drop_zero, ← e1]
set_option maxRecDepth 100000 in
/-- A commit that came in. -/
theorem cm_cells {H : Type} {enc : TypeId × Value → H} {W : World} {n : Nat} {cs : List Value} {x : DataW H × List MemPlace} (h : DataW.trod enc Try.prog W 0 (fun _ => true) true n 25 cs = some x) :
    ∃ c : Cm, cs = c.cells ∧ (-9223372036854775808 ≤ c.count ∧ c.count ≤ 9223372036854775807) ∧ (-9223372036854775808 ≤ c.leaves ∧ c.leaves ≤ 9223372036854775807) := by
  obtain ⟨xs, m, _, _, hcl, hxl, hf⟩ := DataW.trod_struct Try.underlying25 h
  rw [cellsC] at hcl
  match xs, hxl with
  | [x0, x1, x2, x3], _ =>
    have h0 : DataW.trod enc Try.prog W 0 (fun _ => true) true m 3 ((cs.drop 0).take 1) = some x0 := by have := hf 0 _ rfl; simpa [cellsI] using this
    have h1 : DataW.trod enc Try.prog W 0 (fun _ => true) true m 23 ((cs.drop 1).take 32) = some x1 := by have := hf 1 _ rfl; simpa [cellsD] using this
    have h2 : DataW.trod enc Try.prog W 0 (fun _ => true) true m 23 ((cs.drop 33).take 32) = some x2 := by have := hf 2 _ rfl; simpa [cellsD] using this
    have h3 : DataW.trod enc Try.prog W 0 (fun _ => true) true m 3 ((cs.drop 65).take 1) = some x3 := by have := hf 3 _ rfl; simpa [cellsI] using this
    obtain ⟨n0, e0, _, w0⟩ := DataW.trod_int Try.underlying3 h0
    obtain ⟨n3, e3, _, w3⟩ := DataW.trod_int Try.underlying3 h3
    obtain ⟨d1, e1⟩ := arr_in Try.underlying23 cellsD h1
    obtain ⟨d2, e2⟩ := arr_in Try.underlying23 cellsD h2
    refine ⟨⟨n0, d1, d2, n3⟩, ?_, int64_of w0, int64_of w3⟩
    rw [split66 cs hcl, e0, e1, e2, e3]
    rfl
set_option maxRecDepth 100000 in
theorem cm_in {H : Type} {enc : TypeId × Value → H} {W : World} {base : Nat} {v : Value} {d : DataW H} {p : List MemPlace} (hv : Value.okWide Try.prog W .any base 25 v) (h : DataW.Trod enc Try.prog W 0 (fun _ => true) true 25 v d p) :
    ∃ c : Cm, v = cv c ∧ (-9223372036854775808 ≤ c.count ∧ c.count ≤ 9223372036854775807) ∧ (-9223372036854775808 ≤ c.leaves ∧ c.leaves ≤ 9223372036854775807) := by
  simp only [Value.okWide, Try.underlying25] at hv
  obtain ⟨cs, rfl, hsz, _⟩ := hv
  obtain ⟨fuel, hf⟩ := h
  obtain ⟨c, hc, h1, h2⟩ := cm_cells hf
  refine ⟨c, ?_, h1, h2⟩
  unfold cv
  rw [← hc]
  simp [Value.cells]
theorem trodAll_below {H : Type} {enc : TypeId × Value → H} {W W' : World} (hb : Below W.heap.size W W') : ∀ {ts : List TypeId} {vs : List Value} {ds : List (DataW H)} {ps : List MemPlace},
    (∀ t ∈ ts, Try.prog.readableRec t = true ∧ t < Try.prog.types.size) → (∀ x ∈ ps, x.block < W.heap.size) → DataW.TrodAll enc Try.prog W 0 (fun _ => true) true ts vs ds ps →
    DataW.TrodAll enc Try.prog W' 0 (fun b => decide (b < W.heap.size)) true ts vs ds ps
  | [], _, _, _, _, _, h => by
    obtain ⟨rfl, rfl, rfl⟩ := trodAll_nil h
    exact trodAll_mk0
  | t :: ts, _, _, _, ht, hp, h => by
    obtain ⟨v, vs', d, ds', p, q, rfl, rfl, rfl, h0, hr⟩ := trodAll_cons h
    exact trodAll_cons_mk (Below.trod laidOut (ht t (by simp)).1 (ht t (by simp)).2 h0 hb (fun x hx => hp x (by simp [hx]))) (trodAll_below hb (fun t' h' => ht t' (by simp [h'])) (fun x hx => hp x (by simp [hx])) hr)
/-- What every law of this seat gives: true, and what came in reads as it did. -/
theorem post_true {H : Type} {enc : TypeId × Value → H} {f : Func} {s : ChangeSpec} {W W' : World} {args : Array Value} {ds : List (DataW H)} {before : List MemPlace}
    (hW : DataW.Whole enc Try.prog f.params.toList s.vars false W args.toList ds [] before) (hv : s.vars = []) (hr : f.resultTypes = #[4]) (hres : (s.fn H (ds ++ [])).results = [.lit (.bool true)])
    (hargs : DataW.TrodAll enc Try.prog W' 0 (fun b => decide (b < W.heap.size)) true f.params.toList args.toList (s.fn H (ds ++ [])).args before) (hvars : (s.fn H (ds ++ [])).vars = [])
    (hb : Mod [] W W') : s.post enc Try.prog f false true false false W args (.bool true) W' := by
  refine ⟨ds, [], before, [], before, [], hW, ?_, hargs, ?_, ?_, fun h => ?_⟩
  · rw [hr, hres]
    exact trodAll_mk1 (shut_bool Try.underlying4 _)
  · rw [hv, hvars]; rfl
  · exact hb.below.frame _
  · cases h
end Go.Proofs.Ytmjdfglidfdkaaa
