/- From what came in to what the walks ask; from what they give to the statement. No condition. -/
import Derived.Test.YtmdgefiojapogaaDoorSl
import Derived.Test.YtmdgefiojapogaaDoorRows
import Derived.Test.YtmdgefiojapogaaDoorChecked
import Derived.ProofKit
import Derived.OpenShut
import Derived.JoinedCond
import Derived.Deep.Slices
namespace Go.Proofs.YtmdgefiojapogaaDoor
open Go.ChangeShapes Go.WideShapes Go.ChangeAt Go.RowKit
theorem own : ownKnob Tryd.prog.godebug = none := by kernel_rfl
theorem laidOut : laidOutB Tryd.prog = true := by kernel_rfl
theorem cells8 : Tryd.prog.cellsOf 5 = 1 := by kernel_rfl
theorem cellsI : Tryd.prog.cellsOf 3 = 1 := by kernel_rfl
theorem int64_of {n : Int} (h : (Lit.int .i64 n).wf = true) : -9223372036854775808 ≤ n ∧ n ≤ 9223372036854775807 := by
  simp only [Lit.wf, Bool.and_eq_true, decide_eq_true_eq] at h
  exact h
/-- An array of bytes that came in. -/
theorem arr_in {H : Type} {enc : TypeId × Value → H} {W : World} {t : TypeId} {n k : Nat} (ht : Tryd.prog.underlying t = some (.array k 5)) (hc : Tryd.prog.cellsOf t = k) {cs : List Value} {x : DataW H × List MemPlace} (h : DataW.trod enc Tryd.prog W 0 (fun _ => true) true n t cs = some x) :
    ∃ d : {l : List UInt8 // l.length = k}, cs = d.1.map V8 := by
  obtain ⟨xs, m, _, _, hl, hxl, hx⟩ := DataW.trod_array ht h
  rw [hc] at hl
  have hz : ∀ i, i < k → ∃ z : UInt8, cs[i]? = some (V8 z) := by
    intro i hi
    have h1 := hx i hi
    rw [cells8, Nat.mul_one, List.getElem?_eq_getElem (show i < xs.length by omega)] at h1
    obtain ⟨n, e1, _, hw⟩ := DataW.trod_int Tryd.underlying5 h1
    have h3 : (0 : Int) ≤ n ∧ n ≤ 255 := by
      simp only [Lit.wf, Bool.and_eq_true, decide_eq_true_eq] at hw
      exact hw
    have e2 : cs[i]? = some (.int .u8 n) := by
      have := congrArg (·[0]?) e1
      simpa [List.getElem?_take, List.getElem?_drop] using this
    refine ⟨UInt8.ofNat n.toNat, ?_⟩
    have h4 : (((UInt8.ofNat n.toNat).toNat : Nat) : Int) = n := by
      rw [UInt8.toNat_ofNat']
      omega
    rw [e2]
    unfold V8
    rw [h4]
  obtain ⟨f, hfz⟩ := Go.Deep.choose_lt hz
  refine ⟨⟨(List.range k).map f, by simp⟩, ?_⟩
  apply List.ext_getElem?
  intro i
  by_cases hi : i < k
  · rw [hfz i hi]
    simp [hi]
  · rw [List.getElem?_eq_none (by omega), List.getElem?_eq_none (by simp; omega)]
theorem trodAll_below {H : Type} {enc : TypeId × Value → H} {W W' : World} (hb : Below W.heap.size W W') : ∀ {ts : List TypeId} {vs : List Value} {ds : List (DataW H)} {ps : List MemPlace},
    (∀ t ∈ ts, Tryd.prog.readableRec t = true ∧ t < Tryd.prog.types.size) → (∀ x ∈ ps, x.block < W.heap.size) → DataW.TrodAll enc Tryd.prog W 0 (fun _ => true) true ts vs ds ps →
    DataW.TrodAll enc Tryd.prog W' 0 (fun b => decide (b < W.heap.size)) true ts vs ds ps
  | [], _, _, _, _, _, h => by
    obtain ⟨rfl, rfl, rfl⟩ := trodAll_nil h
    exact trodAll_mk0
  | t :: ts, _, _, _, ht, hp, h => by
    obtain ⟨v, vs', d, ds', p, q, rfl, rfl, rfl, h0, hr⟩ := trodAll_cons h
    exact trodAll_cons_mk (Below.trod laidOut (ht t (by simp)).1 (ht t (by simp)).2 h0 hb (fun x hx => hp x (by simp [hx]))) (trodAll_below hb (fun t' h' => ht t' (by simp [h'])) (fun x hx => hp x (by simp [hx])) hr)
/-- What every law of this seat gives: true, and what came in reads as it did. -/
theorem post_true {H : Type} {enc : TypeId × Value → H} {f : Func} {s : ChangeSpec} {W W' : World} {args : Array Value} {ds : List (DataW H)} {before : List MemPlace}
    (hW : DataW.Whole enc Tryd.prog f.params.toList s.vars false W args.toList ds [] before) (hv : s.vars = []) (hr : f.resultTypes = #[4]) (hres : (s.fn H (ds ++ [])).results = [.lit (.bool true)])
    (hargs : DataW.TrodAll enc Tryd.prog W' 0 (fun b => decide (b < W.heap.size)) true f.params.toList args.toList (s.fn H (ds ++ [])).args before) (hvars : (s.fn H (ds ++ [])).vars = [])
    (hb : Mod [] W W') : s.post enc Tryd.prog f false true false false W args (.bool true) W' := by
  refine ⟨ds, [], before, [], before, [], hW, ?_, hargs, ?_, ?_, fun h => ?_⟩
  · rw [hr, hres]
    exact trodAll_mk1 (shut_bool Tryd.underlying4 _)
  · rw [hv, hvars]; rfl
  · exact hb.below.frame _
  · cases h
end Go.Proofs.YtmdgefiojapogaaDoor
