/- From what came in to what the walks ask; from what they give to the statement. -/
import Derived.Test.YtmjdfglidfdkaaaDoorLawSums
import Derived.Test.YtmjdfglidfdkaaaDoorCards
import Derived.Test.YtmjdfglidfdkaaaDoorTie
import Derived.ProofKit
import Derived.OpenShut
import Derived.Carry
import Derived.Deep.DeepHandedRow
import Derived.Lib.LaidTab
import Derived.Stop.LaidErr
namespace Go.Proofs.YtmjdfglidfdkaaaDoor
open Go.ChangeShapes Go.WideShapes Go.ChangeAt Go.RowKit

theorem own : ownKnob Tryd.prog.godebug = none := by kernel_rfl
theorem laidOut : laidOutB Tryd.prog = true := by kernel_rfl
theorem cellsOf5 : Tryd.prog.cellsOf 5 = 1 := by kernel_rfl
theorem cellsOf60 : Tryd.prog.cellsOf 60 = 1 := by kernel_rfl
theorem cellsOf80 : Tryd.prog.cellsOf 80 = 64 := by kernel_rfl
theorem cellsOf61 : Tryd.prog.cellsOf 61 = 8 := by kernel_rfl
def ints (l : List UInt32) : List Int := l.map fun x => (x.toNat : Int)
theorem tab_range {W : World} {n : String} {g : Nat} {l : List UInt32} (h : Lib.TabIs Tryd.prog W n .u32 (ints l)) (hg : Tryd.prog.globalNamed n = some g) : W.rangeAt g 0 (l.map V32) := by
  intro j v hj
  have hj' : j < l.length := by
    have := (List.getElem?_eq_some_iff.1 hj).1
    simpa using this
  have hc := h.cell hg j (by simpa [ints] using hj')
  rw [Nat.zero_add, hc]
  rw [List.getElem?_map, List.getElem?_eq_getElem hj'] at hj
  simp only [Option.map_some, Option.some.injEq] at hj
  rw [← hj]
  simp [ints, V32, List.getElem?_eq_getElem hj']
theorem gC : Tryd.prog.globalNamed "causeway/causewayref01.constants" = some 2 := by kernel_rfl
theorem gB : Tryd.prog.globalNamed "causeway/causewayref01.beginning" = some 0 := by kernel_rfl
theorem gS : Tryd.prog.globalNamed "causeway/digest.steps" = some 1 := by kernel_rfl
theorem gCT : (Tryd.prog.globals[2]?).map (·.type) = some 80 := by kernel_rfl
theorem gBT : (Tryd.prog.globals[0]?).map (·.type) = some 61 := by kernel_rfl
theorem gST : (Tryd.prog.globals[1]?).map (·.type) = some 80 := by kernel_rfl
theorem dC : (Rows.laid_causeway_causewayref01_constants : DataW Unit) = Lib.tabData .u32 (ints steps) := by kernel_rfl
theorem dB : (Rows.laid_causeway_causewayref01_beginning : DataW Unit) = Lib.tabData .u32 (ints st0.l) := by kernel_rfl
theorem dS : (Rows.laid_causeway_digest_steps : DataW Unit) = Lib.tabData .u32 (ints steps) := by kernel_rfl
theorem tabs_of {W : World} (h : laidMetH Tryd.prog [("causeway/causewayref01.constants", Rows.laid_causeway_causewayref01_constants), ("causeway/causewayref01.beginning", Rows.laid_causeway_causewayref01_beginning), ("causeway/digest.steps", Rows.laid_causeway_digest_steps)] W) : TabR W ∧ TabB W ∧ Tab W := by
  have h0 : laidMet Tryd.prog [("causeway/causewayref01.constants", Lib.tabData .u32 (ints steps)), ("causeway/causewayref01.beginning", Lib.tabData .u32 (ints st0.l)), ("causeway/digest.steps", Lib.tabData .u32 (ints steps))] W := by
    rw [← dC, ← dB]; exact h
  refine ⟨tab_range (Lib.tabIs_of_head gC gCT Tryd.underlying80 Tryd.underlying60 cellsOf60 cellsOf80 h0) gC, ?_, ?_⟩
  · exact tab_range (Lib.tabIs_of_head gB gBT Tryd.underlying61 Tryd.underlying60 cellsOf60 cellsOf61 h0.tail) gB
  · exact tab_range (Lib.tabIs_of_head gS gST Tryd.underlying80 Tryd.underlying60 cellsOf60 cellsOf80 h0.tail.tail) gS
theorem tab_of {W : World} (h : laidMetH Tryd.prog [("causeway/digest.steps", Rows.laid_causeway_digest_steps)] W) : Tab W := by
  have h0 : laidMet Tryd.prog [("causeway/digest.steps", Lib.tabData .u32 (ints steps))] W := by
    rw [← dS]; exact h
  exact tab_range (Lib.tabIs_of_head gS gST Tryd.underlying80 Tryd.underlying60 cellsOf60 cellsOf80 h0) gS
theorem bulk_one {H : Type} (d : DataW H) : 1 ≤ Rows.uptoBulk d := by
  cases d with
  | lit l => cases l <;> simp [Rows.uptoBulk]
  | nil => simp [Rows.uptoBulk]
  | ptr d => simp [Rows.uptoBulk]
  | slice elems spare => simp [Rows.uptoBulk]
  | agg parts => simp [Rows.uptoBulk]
  | iface t d => simp [Rows.uptoBulk]
  | map entries => simp [Rows.uptoBulk]
  | held h => simp [Rows.uptoBulk]
theorem bulk_len {H : Type} (l : List (DataW H)) : l.length ≤ Rows.uptoBulkAll l := by
  induction l with
  | nil => simp [Rows.uptoBulkAll]
  | cons x r ih => have := bulk_one x; simp only [Rows.uptoBulkAll, List.length_cons]; omega
def bytesOf (zs : List Int) : List UInt8 := zs.map fun z => UInt8.ofNat z.toNat

/-- A list of bytes that came in. -/
theorem bytes_in {H : Type} {enc : TypeId × Value → H} {W : World} {a0 : Option Addr} {len cap : Nat} {d : DataW H} {p : List MemPlace} (h : DataW.Trod enc Tryd.prog W 0 (fun _ => true) true 22 (.slice a0 len cap) d p) :
    ∃ l : List UInt8, l.length = len ∧ Rd V8 W a0 cap l ∧ len ≤ Rows.uptoBulk d := by
  obtain ⟨fuel, hf⟩ := h
  rcases open_ints Tryd.underlying22 Tryd.underlying5 cellsOf5 hf with ⟨hcs, hx⟩ | ⟨a, len', cap', zs, hcs, _, hl, hm, hz, hx, hcell, hwz⟩
  · simp [Value.cells] at hcs
    obtain ⟨rfl, rfl, rfl⟩ := hcs
    exact ⟨[], rfl, ⟨by simp, fun hne => absurd rfl hne⟩, by omega⟩
  · simp [Value.cells] at hcs
    obtain ⟨rfl, rfl, rfl⟩ := hcs
    simp only [Prod.mk.injEq] at hx
    obtain ⟨rfl, _⟩ := hx
    simp only [if_true] at hz
    have hlen : len ≤ zs.length := by rw [hz]; exact hl
    refine ⟨bytesOf (zs.take len), by simp [bytesOf, hlen], ⟨by simp [bytesOf, hlen]; exact hl, fun hne => ?_⟩, ?_⟩
    · have hpos : 0 < len := by
        rcases Nat.eq_zero_or_pos len with h0 | h0
        · subst h0; exact absurd rfl hne
        · exact h0
      obtain ⟨b, o, spot⟩ := a
      have hspot : spot = none := by simpa [Addr.add] using World.cell?_spot (hcell 0 (by omega))
      subst hspot
      refine ⟨b, o, rfl, fun j v hj => ?_⟩
      have hj' : j < len := by
        have := (List.getElem?_eq_some_iff.1 hj).1
        simp [bytesOf] at this
        omega
      have hc := hcell j (by omega)
      rw [Addr.add_mid] at hc
      rw [hc]
      have hzj : zs[j]? = some (zs.getD j 0) := by simp [List.getElem?_eq_getElem (show j < zs.length by omega)]
      have hw := hwz _ (List.mem_of_getElem? hzj)
      simp only [bytesOf, List.getElem?_map, List.getElem?_take, hj', if_true, hzj, Option.map_some, Option.some.injEq] at hj
      rw [← hj]
      simp only [Lit.wf, Bool.and_eq_true, decide_eq_true_eq] at hw
      generalize zs.getD j 0 = z at *
      have h1 : 0 ≤ z ∧ z < 256 := by
        have h3 : (0 : Int) ≤ z ∧ z ≤ 255 := hw
        omega
      unfold V8
      rw [UInt8.toNat_ofNat']
      congr 2
      omega
    · simp only [Rows.uptoBulk]
      have h1 := bulk_len (lits (H := H) .u8 (zs.take len))
      have h2 : (lits (H := H) .u8 (zs.take len)).length = len := by simp [lits, hlen]
      omega
/-- What every law of this seat gives: true, and what came in reads as it did. -/
theorem post_true {H : Type} {enc : TypeId × Value → H} {f : Func} {s : ChangeSpec} {W W' : World} {args : Array Value} {ds : List (DataW H)} {before : List MemPlace}
    (hW : DataW.Whole enc Tryd.prog f.params.toList s.vars false W args.toList ds [] before) (hv : s.vars = []) (hr : f.resultTypes = #[4]) (hres : (s.fn H (ds ++ [])).results = [.lit (.bool true)])
    (hargs : DataW.TrodAll enc Tryd.prog W' 0 (fun b => decide (b < W.heap.size)) true f.params.toList args.toList (s.fn H (ds ++ [])).args before) (hvars : (s.fn H (ds ++ [])).vars = [])
    (hb : Mod [] W W') : s.post enc Tryd.prog f false true false false W args (.bool true) W' := by
  refine ⟨ds, [], before, [], before, [], hW, ?_, hargs, ?_, ?_, fun h => ?_⟩
  · rw [hr, hres]
    exact trodAll_mk1 (shut_bool Tryd.underlying4 _)
  · rw [hv, hvars]; rfl
  · exact hb.below.frame _
  · cases h
def laidObj (cs : Array Value) : Obj → Obj
  | .cells _ t frozen => .cells cs t frozen
  | o => o
/-- A world for the witnesses: the settled one, the three tables holding what their initialisers lay. -/
noncomputable def laidWorld (os : Os) : World :=
  let w := World.holding Tryd.prog os ⟨#[], #[], []⟩
  { w with heap := ((w.heap.modify 2 (laidObj (steps.map V32).toArray)).modify 1 (laidObj (steps.map V32).toArray)).modify 0 (laidObj (st0.l.map V32).toArray) }
end Go.Proofs.YtmjdfglidfdkaaaDoor
