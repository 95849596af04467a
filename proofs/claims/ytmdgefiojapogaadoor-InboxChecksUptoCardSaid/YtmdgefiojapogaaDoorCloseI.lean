/- From what came in to what the tree's laws ask; the package-level tables. -/
import Derived.Test.YtmdgefiojapogaaDoorPostIn
import Derived.Test.YtmdgefiojapogaaDoorInNext
import Derived.Test.YtmdgefiojapogaaDoorRfTreeIM
import Derived.Test.YtmdgefiojapogaaDoorCards
import Derived.Test.YtmdgefiojapogaaDoorTie
import Derived.ProofKit
import Derived.OpenShut
import Derived.Carry
import Derived.Deep.DeepHandedRow
import Derived.Lib.LaidTab
import Derived.Stop.LaidErr
import Derived.Deep.Slices
namespace Go.Proofs.YtmdgefiojapogaaDoor
open Go.ChangeShapes Go.WideShapes Go.ChangeAt Go.RowKit
theorem cellsOf60 : Tryd.prog.cellsOf 122 = 1 := by kernel_rfl
theorem cellsOf80 : Tryd.prog.cellsOf 138 = 64 := by kernel_rfl
theorem cellsOf61 : Tryd.prog.cellsOf 123 = 8 := by kernel_rfl
def ints (l : List UInt32) : List Int := l.map fun x => (x.toNat : Int)
theorem tab_range {W : World} {n : String} {g : Nat} {l : List UInt32} (h : Lib.TabIs Tryd.prog W n .u32 (ints l)) (hg : Tryd.prog.globalNamed n = some g) : W.rangeAt g 0 (l.map V32) := by
  intro j v hj
  have hj' : j < l.length := by
    have := (List.getElem?_eq_some_iff.1 hj).1
    simpa using this
  have hc := h.cell hg j (by simpa [ints] using hj')
  rw [Nat.zero_add, hc]
  rw [List.getElem?_map, List.getElem?_eq_getElem hj'] at hj
  simp only [Option.map_some, Option.some.injEq] at hj
  rw [← hj]
  simp [ints, V32, List.getElem?_eq_getElem hj']
theorem gC : Tryd.prog.globalNamed "causeway/causewayref01.constants" = some 2 := by kernel_rfl
theorem gB : Tryd.prog.globalNamed "causeway/causewayref01.beginning" = some 0 := by kernel_rfl
theorem gS : Tryd.prog.globalNamed "causeway/digest.steps" = some 1 := by kernel_rfl
theorem gCT : (Tryd.prog.globals[2]?).map (·.type) = some 138 := by kernel_rfl
theorem gBT : (Tryd.prog.globals[0]?).map (·.type) = some 123 := by kernel_rfl
theorem gST : (Tryd.prog.globals[1]?).map (·.type) = some 138 := by kernel_rfl
theorem dC : (Rows.laid_causeway_causewayref01_constants : DataW Unit) = Lib.tabData .u32 (ints steps) := by kernel_rfl
theorem dB : (Rows.laid_causeway_causewayref01_beginning : DataW Unit) = Lib.tabData .u32 (ints st0.l) := by kernel_rfl
theorem dS : (Rows.laid_causeway_digest_steps : DataW Unit) = Lib.tabData .u32 (ints steps) := by kernel_rfl
theorem tabs_of {W : World} (h : laidMetH Tryd.prog [("causeway/causewayref01.constants", Rows.laid_causeway_causewayref01_constants), ("causeway/causewayref01.beginning", Rows.laid_causeway_causewayref01_beginning), ("causeway/digest.steps", Rows.laid_causeway_digest_steps)] W) : TabR W ∧ TabB W ∧ Tab W := by
  have h0 : laidMet Tryd.prog [("causeway/causewayref01.constants", Lib.tabData .u32 (ints steps)), ("causeway/causewayref01.beginning", Lib.tabData .u32 (ints st0.l)), ("causeway/digest.steps", Lib.tabData .u32 (ints steps))] W := by
    rw [← dC, ← dB]; exact h
  refine ⟨tab_range (Lib.tabIs_of_head gC gCT Tryd.underlying138 Tryd.underlying122 cellsOf60 cellsOf80 h0) gC, ?_, ?_⟩
  · exact tab_range (Lib.tabIs_of_head gB gBT Tryd.underlying123 Tryd.underlying122 cellsOf60 cellsOf61 h0.tail) gB
  · exact tab_range (Lib.tabIs_of_head gS gST Tryd.underlying138 Tryd.underlying122 cellsOf60 cellsOf80 h0.tail.tail) gS
theorem tab_of {W : World} (h : laidMetH Tryd.prog [("causeway/digest.steps", Rows.laid_causeway_digest_steps)] W) : Tab W := by
  have h0 : laidMet Tryd.prog [("causeway/digest.steps", Lib.tabData .u32 (ints steps))] W := by
    rw [← dS]; exact h
  exact tab_range (Lib.tabIs_of_head gS gST Tryd.underlying138 Tryd.underlying122 cellsOf60 cellsOf80 h0) gS
def laidObj (cs : Array Value) : Obj → Obj
  | .cells _ t frozen => .cells cs t frozen
  | o => o
def bytesOf (zs : List Int) : List UInt8 := zs.map fun z => UInt8.ofNat z.toNat
/-- A list of bytes that came in. -/
theorem bytes_in {H : Type} {enc : TypeId × Value → H} {W : World} {a0 : Option Addr} {len cap : Nat} {d : DataW H} {p : List MemPlace} (h : DataW.Trod enc Tryd.prog W 0 (fun _ => true) true 27 (.slice a0 len cap) d p) :
    ∃ l : List UInt8, l.length = len ∧ Rd V8 W a0 cap l ∧ len ≤ Rows.uptoBulk d := by
  obtain ⟨fuel, hf⟩ := h
  rcases open_ints Tryd.underlying27 Tryd.underlying5 cells8 hf with ⟨hcs, hx⟩ | ⟨a, len', cap', zs, hcs, _, hl, hm, hz, hx, hcell, hwz⟩
  · simp [Value.cells] at hcs
    obtain ⟨rfl, rfl, rfl⟩ := hcs
    exact ⟨[], rfl, ⟨by simp, fun hne => absurd rfl hne⟩, by omega⟩
  · simp [Value.cells] at hcs
    obtain ⟨rfl, rfl, rfl⟩ := hcs
    simp only [Prod.mk.injEq] at hx
    obtain ⟨rfl, _⟩ := hx
    simp only [if_true] at hz
    have hlen : len ≤ zs.length := by rw [hz]; exact hl
    refine ⟨bytesOf (zs.take len), by simp [bytesOf, hlen], ⟨by simp [bytesOf, hlen]; exact hl, fun hne => ?_⟩, ?_⟩
    · have hpos : 0 < len := by
        rcases Nat.eq_zero_or_pos len with h0 | h0
        · subst h0; exact absurd rfl hne
        · exact h0
      obtain ⟨b, o, spot⟩ := a
      have hspot : spot = none := by simpa [Addr.add] using World.cell?_spot (hcell 0 (by omega))
      subst hspot
      refine ⟨b, o, rfl, fun j v hj => ?_⟩
      have hj' : j < len := by
        have := (List.getElem?_eq_some_iff.1 hj).1
        simp [bytesOf] at this
        omega
      have hc := hcell j (by omega)
      rw [Addr.add_mid] at hc
      rw [hc]
      have hzj : zs[j]? = some (zs.getD j 0) := by simp [List.getElem?_eq_getElem (show j < zs.length by omega)]
      have hw := hwz _ (List.mem_of_getElem? hzj)
      simp only [bytesOf, List.getElem?_map, List.getElem?_take, hj', if_true, hzj, Option.map_some, Option.some.injEq] at hj
      rw [← hj]
      simp only [Lit.wf, Bool.and_eq_true, decide_eq_true_eq] at hw
      generalize zs.getD j 0 = z at *
      have h1 : 0 ≤ z ∧ z < 256 := by
        have h3 : (0 : Int) ≤ z ∧ z ≤ 255 := hw
        omega
      unfold V8
      rw [UInt8.toNat_ofNat']
      congr 2
      omega
    · simp only [Rows.uptoBulk]
      have h1 := bulk_len (lits (H := H) .u8 (zs.take len))
      have h2 : (lits (H := H) .u8 (zs.take len)).length = len := by simp [lits, hlen]
      omega
instance : Inhabited SlR := ⟨⟨none, 0, []⟩⟩
theorem cellsOf22 : Tryd.prog.cellsOf 27 = 1 := by kernel_rfl
theorem total_bulk {H : Type} (f : Nat → SlR) (D : Nat → DataW H) : ∀ l : List Nat, (∀ i ∈ l, (f i).d.length ≤ Rows.uptoBulk (D i)) → total (l.map f) ≤ Rows.uptoBulkAll (l.map D)
  | [], _ => by simp [total]
  | i :: l, h => by
    have h1 := h i (by simp)
    have h2 := total_bulk f D l (fun j hj => h j (by simp [hj]))
    simp only [List.map_cons, Rows.uptoBulkAll, total, List.sum_cons] at h2 ⊢
    omega
theorem lists_in {H : Type} {enc : TypeId × Value → H} {W : World} {a0 : Option Addr} {len cap : Nat} {d : DataW H} {p : List MemPlace} (h : DataW.Trod enc Tryd.prog W 0 (fun _ => true) true 26 (.slice a0 len cap) d p) :
    ∃ xs : List SlR, xs.length = len ∧ Rd SlR.v W a0 cap xs ∧ (∀ x ∈ xs, Rd V8 W x.p x.cap x.d) ∧ total xs ≤ Rows.uptoBulk d ∧ len ≤ Rows.uptoBulk d := by
  obtain ⟨fuel, hf⟩ := h
  rcases Go.Deep.open_slice1 Tryd.underlying26 cellsOf22 hf with ⟨hcs, hx⟩ | ⟨a, len', cap', m, n, V, D, Pl, hcs, _, hl, hmx, hm, hx, hcell⟩
  · simp [Value.cells] at hcs
    obtain ⟨rfl, rfl, rfl⟩ := hcs
    exact ⟨[], rfl, Rd.nil _ _ _ _, by simp, by simp [total], by omega⟩
  · simp [Value.cells] at hcs
    obtain ⟨rfl, rfl, rfl⟩ := hcs
    simp only [Prod.mk.injEq] at hx
    obtain ⟨rfl, _⟩ := hx
    simp only [if_true] at hm
    subst hm
    have hex : ∀ i, i < len → ∃ x : SlR, V i = x.v ∧ Rd V8 W x.p x.cap x.d ∧ x.d.length ≤ Rows.uptoBulk (D i) := by
      intro i hi
      obtain ⟨_, ht⟩ := hcell i (by omega)
      have hsl : ∃ p l c, V i = .slice p l c := by
        rcases Go.Deep.open_slice Tryd.underlying27 ht with ⟨e, _⟩ | ⟨a1, l1, c1, _, _, _, _, e, _⟩
        · injection e with e; exact ⟨_, _, _, e⟩
        · injection e with e; exact ⟨_, _, _, e⟩
      obtain ⟨p1, l1, c1, hv⟩ := hsl
      obtain ⟨l, hll, hr, hb⟩ := bytes_in (enc := enc) (W := W) (a0 := p1) (len := l1) (cap := c1) (d := D i) (p := Pl i) ⟨n, by rw [hv] at ht; exact ht⟩
      exact ⟨⟨p1, c1, l⟩, by rw [hv, SlR.v, hll], hr, by show l.length ≤ _; omega⟩
    obtain ⟨f, hfz⟩ := Go.Deep.choose_lt hex
    refine ⟨(List.range len).map f, by simp, ⟨by simpa using hl, fun hne => ?_⟩, ?_, ?_, ?_⟩
    · have hpos : 0 < len := by
        rcases Nat.eq_zero_or_pos len with h0 | h0
        · subst h0; exact absurd rfl hne
        · exact h0
      obtain ⟨b, o, spot⟩ := a
      have hspot : spot = none := by simpa [Addr.add] using World.cell?_spot (hcell 0 (by omega)).1
      subst hspot
      refine ⟨b, o, rfl, fun j v hj => ?_⟩
      have hj' : j < len := by
        have := (List.getElem?_eq_some_iff.1 hj).1
        simpa using this
      have hc := (hcell j (by omega)).1
      rw [Addr.add_mid] at hc
      rw [hc, (hfz j hj').1]
      simp [hj'] at hj
      rw [← hj]
    · intro x hx
      obtain ⟨i, hi, rfl⟩ := List.mem_map.1 hx
      exact (hfz i (by simpa using hi)).2.1
    · have := total_bulk f D (List.range len) (fun i hi => (hfz i (by simpa using hi)).2.2)
      simp only [Rows.uptoBulk]
      omega
    · simp only [Rows.uptoBulk]
      have h1 := bulk_len ((List.range len).map D)
      simp only [List.length_map, List.length_range] at h1
      omega
theorem cells32 : Tryd.prog.cellsOf 24 = 32 := by kernel_rfl
set_option maxRecDepth 100000 in
/-- A digest that came in. -/
theorem digest_in {H : Type} {enc : TypeId × Value → H} {W : World} {base : Nat} {v : Value} {d : DataW H} {p : List MemPlace} (hv : Value.okWide Tryd.prog W .any base 24 v) (h : DataW.Trod enc Tryd.prog W 0 (fun _ => true) true 24 v d p) :
    ∃ l : List UInt8, l.length = 32 ∧ v = dv l := by
  simp only [Value.okWide, Tryd.underlying24] at hv
  obtain ⟨cs, rfl, _⟩ := hv
  obtain ⟨fuel, hf⟩ := h
  obtain ⟨l, hl⟩ := arr_in Tryd.underlying24 cells32 hf
  refine ⟨l.1, l.2, ?_⟩
  have e : cs.toList = l.1.map V8 := by simpa [Value.cells] using hl
  unfold dv
  rw [← e]
/-- A world for the witnesses: the settled one, the tables holding what their initialisers lay. -/
noncomputable def laidWorld (os : Os) : World :=
  let w := World.holding Tryd.prog os ⟨#[], #[], []⟩
  { w with heap := ((w.heap.modify 2 (laidObj (steps.map V32).toArray)).modify 1 (laidObj (steps.map V32).toArray)).modify 0 (laidObj (st0.l.map V32).toArray) }
/-- 'hf' is a letter from here on. -/
theorem hs_of {W : World} (h : Tab W) : ∃ hf, Hs hf W := ⟨fun d => fin d 0 0, h, fun _ => rfl⟩
end Go.Proofs.YtmdgefiojapogaaDoor
