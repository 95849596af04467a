/- What inbox's laws are called with: entries, raw ones. No condition. -/
import Derived.Test.YtmdgefiojapogaaDoorCloseI
import Derived.Test.YtmdgefiojapogaaDoorLawInRefuses
namespace Go.Proofs.YtmdgefiojapogaaDoor
open Go.ChangeShapes Go.WideShapes Go.ChangeAt Go.RowKit
theorem cells64 : Tryd.prog.cellsOf 31 = 1 := by kernel_rfl
theorem cellsWd : Tryd.prog.cellsOf 33 = 4 := by kernel_rfl
theorem cellsAd : Tryd.prog.cellsOf 30 = 20 := by kernel_rfl
theorem cellsBy : Tryd.prog.cellsOf 27 = 1 := by kernel_rfl
theorem cellsIn : Tryd.prog.cellsOf 3 = 1 := by kernel_rfl
theorem cellsBo : Tryd.prog.cellsOf 4 = 1 := by kernel_rfl
theorem cellsEn : Tryd.prog.cellsOf 35 = 49 := by kernel_rfl
theorem cellsRw : Tryd.prog.cellsOf 91 = 49 := by kernel_rfl
/-- An array of wide words that came in. -/
theorem arr64_in {H : Type} {enc : TypeId × Value → H} {W : World} {t : TypeId} {n k : Nat} (ht : Tryd.prog.underlying t = some (.array k 31)) (hc : Tryd.prog.cellsOf t = k) {cs : List Value} {x : DataW H × List MemPlace} (h : DataW.trod enc Tryd.prog W 0 (fun _ => true) true n t cs = some x) :
    ∃ d : {l : List UInt64 // l.length = k}, cs = d.1.map V64 := by
  obtain ⟨xs, m, _, _, hl, hxl, hx⟩ := DataW.trod_array ht h
  rw [hc] at hl
  have hz : ∀ i, i < k → ∃ z : UInt64, cs[i]? = some (V64 z) := by
    intro i hi
    have h1 := hx i hi
    rw [cells64, Nat.mul_one, List.getElem?_eq_getElem (show i < xs.length by omega)] at h1
    obtain ⟨n, e1, _, hw⟩ := DataW.trod_int Tryd.underlying31 h1
    have h3 : (0 : Int) ≤ n ∧ n ≤ 18446744073709551615 := by
      simp only [Lit.wf, Bool.and_eq_true, decide_eq_true_eq] at hw
      exact hw
    have e2 : cs[i]? = some (.int .u64 n) := by
      have := congrArg (·[0]?) e1
      simpa [List.getElem?_take, List.getElem?_drop] using this
    refine ⟨UInt64.ofNat n.toNat, ?_⟩
    have h4 : (((UInt64.ofNat n.toNat).toNat : Nat) : Int) = n := by
      rw [UInt64.toNat_ofNat']
      omega
    rw [e2]
    unfold V64
    rw [h4]
  obtain ⟨f, hfz⟩ := Go.Deep.choose_lt hz
  refine ⟨⟨(List.range k).map f, by simp⟩, ?_⟩
  apply List.ext_getElem?
  intro i
  by_cases hi : i < k
  · rw [hfz i hi]
    simp [hi]
  · rw [List.getElem?_eq_none (by omega), List.getElem?_eq_none (by simp; omega)]
theorem split49 (cs : List Value) (h : cs.length = 49) : cs = (cs.drop 0).take 1 ++ ((cs.drop 1).take 20 ++ ((cs.drop 21).take 1 ++ ((cs.drop 22).take 1 ++ ((cs.drop 23).take 20 ++ ((cs.drop 43).take 4 ++ ((cs.drop 47).take 1 ++ (cs.drop 48).take 1)))))) := by
  have e9 : (cs.drop 48).take 1 = cs.drop 48 := List.take_of_length_le (by simp; omega)
  rw [e9, ← cut_at cs 47 1 48 rfl, ← cut_at cs 43 4 47 rfl, ← cut_at cs 23 20 43 rfl, ← cut_at cs 22 1 23 rfl, ← cut_at cs 21 1 22 rfl, ← cut_at cs 1 20 21 rfl, ← cut_at cs 0 1 1 rfl, List.drop_zero]
/-- What is known of an entry that came in. -/
structure EnIn (W : World) (x : En) (m : Nat) : Prop where
  ln : x.Ln
  rd : Rd V8 W x.body.p x.body.cap x.body.d
  len : x.body.d.length ≤ m
structure RwIn (W : World) (x : Rw) (m : Nat) : Prop where
  ln : x.Ln
  rd : Rd V8 W x.body.p x.body.cap x.body.d
  ints : (-9223372036854775808 ≤ x.later ∧ x.later ≤ 9223372036854775807) ∧ (-9223372036854775808 ≤ x.tok ∧ x.tok ≤ 9223372036854775807) ∧ (-9223372036854775808 ≤ x.gas ∧ x.gas ≤ 9223372036854775807)
  len : x.body.d.length ≤ m
set_option maxRecDepth 100000 in
theorem en_cells {H : Type} {enc : TypeId × Value → H} {W : World} {n : Nat} {cs : List Value} {x : DataW H × List MemPlace} (h : DataW.trod enc Tryd.prog W 0 (fun _ => true) true n 35 cs = some x) :
    ∃ s : En, cs = s.cells ∧ EnIn W s (Rows.uptoBulk x.1) := by
  obtain ⟨xs, m, _, hxd, hcl, hxl, hf⟩ := DataW.trod_struct Tryd.underlying35 h
  rw [cellsEn] at hcl
  match xs, hxl with
  | [x0, x1, x2, x3, x4, x5, x6, x7], _ =>
    have h0 : DataW.trod enc Tryd.prog W 0 (fun _ => true) true m 3 ((cs.drop 0).take 1) = some x0 := by have := hf 0 _ rfl; simpa [cellsIn] using this
    have h1 : DataW.trod enc Tryd.prog W 0 (fun _ => true) true m 30 ((cs.drop 1).take 20) = some x1 := by have := hf 1 _ rfl; simpa [cellsAd] using this
    have h2 : DataW.trod enc Tryd.prog W 0 (fun _ => true) true m 3 ((cs.drop 21).take 1) = some x2 := by have := hf 2 _ rfl; simpa [cellsIn] using this
    have h3 : DataW.trod enc Tryd.prog W 0 (fun _ => true) true m 3 ((cs.drop 22).take 1) = some x3 := by have := hf 3 _ rfl; simpa [cellsIn] using this
    have h4 : DataW.trod enc Tryd.prog W 0 (fun _ => true) true m 30 ((cs.drop 23).take 20) = some x4 := by have := hf 4 _ rfl; simpa [cellsAd] using this
    have h5 : DataW.trod enc Tryd.prog W 0 (fun _ => true) true m 33 ((cs.drop 43).take 4) = some x5 := by have := hf 5 _ rfl; simpa [cellsWd] using this
    have h6 : DataW.trod enc Tryd.prog W 0 (fun _ => true) true m 3 ((cs.drop 47).take 1) = some x6 := by have := hf 6 _ rfl; simpa [cellsIn] using this
    have h7 : DataW.trod enc Tryd.prog W 0 (fun _ => true) true m 27 ((cs.drop 48).take 1) = some x7 := by have := hf 7 _ rfl; simpa [cellsBy] using this
    obtain ⟨n0, e0, _, w0⟩ := DataW.trod_int Tryd.underlying3 h0
    obtain ⟨d1, e1⟩ := arr_in Tryd.underlying30 cellsAd h1
    obtain ⟨n2, e2, _, w2⟩ := DataW.trod_int Tryd.underlying3 h2
    obtain ⟨n3, e3, _, w3⟩ := DataW.trod_int Tryd.underlying3 h3
    obtain ⟨d4, e4⟩ := arr_in Tryd.underlying30 cellsAd h4
    obtain ⟨d5, e5⟩ := arr64_in Tryd.underlying33 cellsWd h5
    obtain ⟨n6, e6, _, w6⟩ := DataW.trod_int Tryd.underlying3 h6
    obtain ⟨a7, l7, c7, e7⟩ := slice_cell Tryd.underlying27 h7
    rw [e7] at h7
    obtain ⟨b, hb, hr, hbb⟩ := bytes_in (d := x7.1) (p := x7.2) ⟨m, h7⟩
    subst hb
    refine ⟨⟨n0, d1.1, n2, n3, d4.1, d5.1, n6, ⟨a7, c7, b⟩⟩, ?_, ⟨⟨d1.2, d4.2, d5.2⟩, hr, ?_⟩⟩
    · rw [split49 cs hcl, e0, e1, e2, e3, e4, e5, e6, e7]
      rfl
    · simp only [List.map_cons, List.map_nil] at hxd
      rw [hxd]
      simp only [Rows.uptoBulk, Rows.uptoBulkAll]
      show b.length ≤ _
      omega
set_option maxRecDepth 100000 in
theorem rw_cells {H : Type} {enc : TypeId × Value → H} {W : World} {n : Nat} {cs : List Value} {x : DataW H × List MemPlace} (h : DataW.trod enc Tryd.prog W 0 (fun _ => true) true n 91 cs = some x) :
    ∃ s : Rw, cs = s.cells ∧ RwIn W s (Rows.uptoBulk x.1) := by
  obtain ⟨xs, m, _, hxd, hcl, hxl, hf⟩ := DataW.trod_struct Tryd.underlying91 h
  rw [cellsRw] at hcl
  match xs, hxl with
  | [x0, x1, x2, x3, x4, x5, x6, x7], _ =>
    have h0 : DataW.trod enc Tryd.prog W 0 (fun _ => true) true m 4 ((cs.drop 0).take 1) = some x0 := by have := hf 0 _ rfl; simpa [cellsBo] using this
    have h1 : DataW.trod enc Tryd.prog W 0 (fun _ => true) true m 30 ((cs.drop 1).take 20) = some x1 := by have := hf 1 _ rfl; simpa [cellsAd] using this
    have h2 : DataW.trod enc Tryd.prog W 0 (fun _ => true) true m 3 ((cs.drop 21).take 1) = some x2 := by have := hf 2 _ rfl; simpa [cellsIn] using this
    have h3 : DataW.trod enc Tryd.prog W 0 (fun _ => true) true m 3 ((cs.drop 22).take 1) = some x3 := by have := hf 3 _ rfl; simpa [cellsIn] using this
    have h4 : DataW.trod enc Tryd.prog W 0 (fun _ => true) true m 30 ((cs.drop 23).take 20) = some x4 := by have := hf 4 _ rfl; simpa [cellsAd] using this
    have h5 : DataW.trod enc Tryd.prog W 0 (fun _ => true) true m 33 ((cs.drop 43).take 4) = some x5 := by have := hf 5 _ rfl; simpa [cellsWd] using this
    have h6 : DataW.trod enc Tryd.prog W 0 (fun _ => true) true m 3 ((cs.drop 47).take 1) = some x6 := by have := hf 6 _ rfl; simpa [cellsIn] using this
    have h7 : DataW.trod enc Tryd.prog W 0 (fun _ => true) true m 27 ((cs.drop 48).take 1) = some x7 := by have := hf 7 _ rfl; simpa [cellsBy] using this
    obtain ⟨n0, e0, _⟩ := DataW.trod_bool Tryd.underlying4 h0
    obtain ⟨d1, e1⟩ := arr_in Tryd.underlying30 cellsAd h1
    obtain ⟨n2, e2, _, w2⟩ := DataW.trod_int Tryd.underlying3 h2
    obtain ⟨n3, e3, _, w3⟩ := DataW.trod_int Tryd.underlying3 h3
    obtain ⟨d4, e4⟩ := arr_in Tryd.underlying30 cellsAd h4
    obtain ⟨d5, e5⟩ := arr64_in Tryd.underlying33 cellsWd h5
    obtain ⟨n6, e6, _, w6⟩ := DataW.trod_int Tryd.underlying3 h6
    obtain ⟨a7, l7, c7, e7⟩ := slice_cell Tryd.underlying27 h7
    rw [e7] at h7
    obtain ⟨b, hb, hr, hbb⟩ := bytes_in (d := x7.1) (p := x7.2) ⟨m, h7⟩
    subst hb
    refine ⟨⟨n0, d1.1, n2, n3, d4.1, d5.1, n6, ⟨a7, c7, b⟩⟩, ?_, ⟨⟨d1.2, d4.2, d5.2⟩, hr, ⟨int64_of w2, int64_of w3, int64_of w6⟩, ?_⟩⟩
    · rw [split49 cs hcl, e0, e1, e2, e3, e4, e5, e6, e7]
      rfl
    · simp only [List.map_cons, List.map_nil] at hxd
      rw [hxd]
      simp only [Rows.uptoBulk, Rows.uptoBulkAll]
      show b.length ≤ _
      omega
set_option maxRecDepth 100000 in
/-- An entry that came in as an argument. -/
theorem en_in {H : Type} {enc : TypeId × Value → H} {W : World} {base : Nat} {v : Value} {d : DataW H} {p : List MemPlace} (hv : Value.okWide Tryd.prog W .any base 35 v) (h : DataW.Trod enc Tryd.prog W 0 (fun _ => true) true 35 v d p) :
    ∃ s : En, v = .agg s.cells.toArray ∧ EnIn W s (Rows.uptoBulk d) := by
  simp only [Value.okWide, Tryd.underlying35] at hv
  obtain ⟨cs, rfl, hsz, _⟩ := hv
  obtain ⟨fuel, hf⟩ := h
  obtain ⟨s, hs, hi⟩ := en_cells hf
  refine ⟨s, ?_, hi⟩
  have hs : cs.toList = s.cells := hs
  rw [← Array.toArray_toList (xs := cs), hs]
instance : Inhabited Rv := ⟨⟨⟨false, zeros 20, 0, 0, zeros 20, [0, 0, 0, 0], 0, ⟨none, 0, []⟩⟩, ⟨zeros_length 20, zeros_length 20, rfl⟩⟩⟩
theorem sum_memR (xs : List Rv) (x : Rv) (h : x ∈ xs) : x.1.body.d.length ≤ (xs.map fun r : Rv => r.1.body.d.length).sum := by
  induction xs with
  | nil => cases h
  | cons y ys ih =>
    rw [List.map_cons, List.sum_cons]
    rcases List.mem_cons.1 h with rfl | h
    · omega
    · have := ih h; omega
/-- The raw ones that came in. -/
theorem raws_in {H : Type} {enc : TypeId × Value → H} {W : World} {a0 : Option Addr} {len cap : Nat} {d : DataW H} {p : List MemPlace} (h : DataW.Trod enc Tryd.prog W 0 (fun _ => true) true 46 (.slice a0 len cap) d p) :
    ∃ xs : List Rv, xs.length = len ∧ (Rows.uptoBulk d ≤ 1048576 → Raws W a0 cap xs) ∧ len ≤ Rows.uptoBulk d := by
  obtain ⟨xs, h1, h2, h3, h4, h5⟩ := structs_in (α := Rv) 49 rvc (fun r => ∃ m, RwIn W r.1 m) (fun r => r.1.body.d.length) Tryd.underlying46 cellsRw (by omega) rvc_len (fun _ _ _ _ _ h => let ⟨s, hs, hi⟩ := rw_cells h; ⟨⟨s, hi.ln⟩, hs, ⟨_, hi⟩, hi.len⟩) h
  refine ⟨xs, h1, fun hb => ⟨h2, fun r hr => ?_, fun r hr => ?_, by omega, fun r hr => ?_⟩, h5⟩
  · obtain ⟨_, k⟩ := h3 r hr; exact k.rd
  · obtain ⟨_, k⟩ := h3 r hr; exact k.ints
  · have := sum_memR xs r hr
    omega
end Go.Proofs.YtmdgefiojapogaaDoor
namespace Go.Proofs.YtmdgefiojapogaaDoor
open Go.ChangeShapes Go.WideShapes Go.ChangeAt Go.RowKit
instance : Inhabited Ev := ⟨⟨zeroEn, zeroEn_ln⟩⟩
theorem sum_memE (xs : List Ev) (x : Ev) (h : x ∈ xs) : x.1.body.d.length ≤ (xs.map fun r : Ev => r.1.body.d.length).sum := by
  induction xs with
  | nil => cases h
  | cons y ys ih =>
    rw [List.map_cons, List.sum_cons]
    rcases List.mem_cons.1 h with rfl | h
    · omega
    · have := ih h; omega
/-- The entries that came in. -/
theorem ens_in {H : Type} {enc : TypeId × Value → H} {W : World} {a0 : Option Addr} {len cap : Nat} {d : DataW H} {p : List MemPlace} (h : DataW.Trod enc Tryd.prog W 0 (fun _ => true) true 25 (.slice a0 len cap) d p) :
    ∃ xs : List Ev, xs.length = len ∧ (Rows.uptoBulk d ≤ 1048576 → Ents W a0 cap xs ∧ ∀ x ∈ xs, x.1.body.d.length ≤ 1048576) ∧ len ≤ Rows.uptoBulk d := by
  obtain ⟨xs, h1, h2, h3, h4, h5⟩ := structs_in (α := Ev) 49 evc (fun r => ∃ m, EnIn W r.1 m) (fun r => r.1.body.d.length) Tryd.underlying25 cellsEn (by omega) evc_len (fun _ _ _ _ _ h => let ⟨s, hs, hi⟩ := en_cells h; ⟨⟨s, hi.ln⟩, hs, ⟨_, hi⟩, hi.len⟩) h
  refine ⟨xs, h1, fun hb => ⟨⟨h2, fun r hr => ?_, by omega⟩, fun r hr => ?_⟩, h5⟩
  · obtain ⟨_, k⟩ := h3 r hr; exact k.rd
  · have := sum_memE xs r hr
    omega
end Go.Proofs.YtmdgefiojapogaaDoor
