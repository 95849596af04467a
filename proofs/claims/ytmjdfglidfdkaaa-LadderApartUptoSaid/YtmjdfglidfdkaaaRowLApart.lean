/- The statement of LadderApart (the second form: what the arguments read is of bulk at most 1048576). -/
import Derived.Test.YtmjdfglidfdkaaaLwClose
import Derived.Test.YtmjdfglidfdkaaaLaApart
import Derived.Test.YtmjdfglidfdkaaaRows
namespace Go.Proofs.Ytmjdfglidfdkaaa.lapartRow
open Go.ChangeShapes Go.WideShapes Go.ChangeAt Go.RowKit

theorem apart_any (c : Cm) (z : Int) (p : Option Addr) (cap : Nat) (xs : List St) (cut : Int) (w : World) (hr : RdN 94 St.cells w p cap xs) (hl : xs.length ≤ 1048576) (h0 : -9223372036854775808 ≤ cut) (h1 : cut ≤ 9223372036854775807) : Calls Try.prog 5 #[scv c z p xs.length cap, .int .i64 cut] w fun e w' => e = .returned (.bool true) ∧ Mod [] w w' := by
  by_cases h : newErr c z = 0
  · exact apart_main c z p cap xs cut w h hr hl h0 h1
  · exact apart_none c z p xs.length cap cut w h

set_option maxRecDepth 100000 in
theorem contract (H : Type) (enc : TypeId × Value → H) (W : World) (base : Nat) (args : Array Value) (ds gs : List (DataW H)) (before : List MemPlace)
    (hval : ∀ (j : Nat) t v, Try.f5.params[j]? = some t → args[j]? = some v → Value.okWide Try.prog W .any base t v)
    (hW : DataW.Whole enc Try.prog Try.f5.params.toList Rows.ladderApartSpec.vars false W args.toList ds gs before) (hk : Rows.uptoSmall H (ds ++ gs) = true) :
    Calls Try.prog 5 args W fun e W' => ∃ v, e = .returned v ∧ Rows.ladderApartSpec.post enc Try.prog Try.f5 false true false false W args v W' := by
  have hW' := hW
  obtain ⟨p, q, hA0, hV, rfl, _, _⟩ := hW
  have hA : DataW.TrodAll enc Try.prog W 0 (fun _ => true) true Try.f5.params.toList args.toList ds p := hA0
  obtain ⟨rfl, rfl⟩ := trodVars_none hV
  clear hA0
  simp only [List.append_nil] at hW'
  have hlt : ∀ x ∈ p, x.block < W.heap.size := fun x hx => by simpa using hW'.lt x (by simpa using hx)
  have hA1 := hA
  rw [Try.params5] at hA1 hval
  obtain ⟨v0, vs0, d0, ds0, p0, q0, hargs, rfl, rfl, h0, r0⟩ := trodAll_cons hA1
  obtain ⟨v1, vs1, d1, ds1, p1, q1, rfl, rfl, rfl, h1, r1⟩ := trodAll_cons r0
  obtain ⟨rfl, rfl, rfl⟩ := trodAll_nil r1
  obtain rfl : args = #[v0, v1] := by cases args; simp_all
  obtain ⟨c, z, a0, cap, xs, rfl, hr, hb⟩ := script_in (hval 0 28 v0 rfl rfl) h0
  obtain ⟨z1, rfl, _, _, hwz⟩ := open_int Try.underlying3 (hval 1 3 v1 rfl rfl) h1
  have hz := int64_of hwz
  have hsm := of_decide_eq_true hk
  simp only [Rows.uptoBulkAll, List.append_nil] at hsm
  refine (apart_any c z a0 cap xs z1 W hr (by omega) hz.1 hz.2).mono fun e W' ⟨he, hg⟩ => ?_
  subst he
  exact ⟨_, rfl, post_true hW' rfl rfl rfl (trodAll_below hg.below (by decide +kernel) hlt hA) rfl hg⟩
/-- A script to begin with. -/
def sc0 : Value := .agg (.int .i64 0 :: (List.replicate 64 (Value.int .u8 0) ++ [.int .i64 0, .int .i64 0, .slice none 0 0])).toArray
/-- What it reads as. -/
def data0 {H : Type} : DataW H := .agg [.agg [.lit (.int .i64 0), .agg (List.replicate 32 (.lit (.int .u8 0))), .agg (List.replicate 32 (.lit (.int .u8 0))), .lit (.int .i64 0)], .lit (.int .i64 0), .nil]
set_option maxRecDepth 100000 in
theorem lifted (os : Os) (started : os.Started) (H : Type) (enc : TypeId × Value → H) (F : Stop.Interp) :
    ReturnsInHanded {} Try.checked os 5 .any ((Rows.OpenSpec.upto Rows.ladderApartSpec).pre6 enc Try.prog Try.f5 Rows.ladderApartUptoRow.domain false) (((Rows.OpenSpec.upto Rows.ladderApartSpec).at F).post enc Try.prog Try.f5 false true false false) := by
  refine returnsInHanded_of_cond (C := Try.checked) (s := Rows.OpenSpec.upto Rows.ladderApartSpec) (k := Rows.uptoSmall) rfl own started (by kernel_rfl) Try.func5
    (OpenSpec.witness (enc := enc) (C := Try.checked) (s := Rows.OpenSpec.upto Rows.ladderApartSpec) (k := Rows.uptoSmall) rfl false ⟨#[], #[sc0, .int .i64 0], []⟩ 80 (by kernel_rfl) (by kernel_rfl) (by kernel_rfl)
      (x := ([data0, .lit (.int .i64 0)], [], [])) (by kernel_rfl) rfl (by kernel_rfl)) ?_
  intro W base args ds gs before hval hW _ hk _
  exact contract H enc W base args ds gs before hval hW hk
theorem over : Rows.ladderApartUptoRow.holds Try.pinned (Rows.OpenSpec.upto Rows.ladderApartSpec) :=
  OpenClaim.holds_of_cond 5 Try.f5 rfl rfl rfl rfl rfl rfl rfl ⟨rfl, rfl, rfl, rfl, rfl⟩ rfl rfl rfl rfl rfl (by kernel_rfl) Try.func5 (by kernel_rfl)
    (of_decide_eq_true (by kernel_rfl)) (by unfold Func.isWrapper; first | (rw [if_pos (by decide +kernel)]; kernel_rfl) | (rw [if_neg (by decide +kernel)]; exact ⟨rfl, rfl⟩))
    (fun os started H enc _ F => lifted os started H enc F)
theorem proved : Rows.LadderApartUptoSaid :=
  over
#print axioms proved
end Go.Proofs.Ytmjdfglidfdkaaa.lapartRow
