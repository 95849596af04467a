/- The statement of LadderOnce (the second form: what the arguments read is of bulk at most 1048576). -/
import Derived.Test.YtmjdfglidfdkaaaLwClose
import Derived.Test.YtmjdfglidfdkaaaLoOnce
import Derived.Test.YtmjdfglidfdkaaaLoNone
import Derived.Test.YtmjdfglidfdkaaaRows
namespace Go.Proofs.Ytmjdfglidfdkaaa.onceRow
open Go.ChangeShapes Go.WideShapes Go.ChangeAt Go.RowKit

theorem once_any (c : Cm) (z : Int) (p : Option Addr) (cap : Nat) (xs : List St) (w : World) (hr : RdN 94 St.cells w p cap xs) (hl : xs.length ≤ 1048576) : Calls Try.prog 7 #[scv c z p xs.length cap] w fun e w' => e = .returned (.bool true) ∧ Mod [] w w' := by
  by_cases h : newErr c z = 0
  · exact once_main c z p cap xs w h hr hl
  · exact once_none c z p xs.length cap w h

set_option maxRecDepth 100000 in
theorem contract (H : Type) (enc : TypeId × Value → H) (W : World) (base : Nat) (args : Array Value) (ds gs : List (DataW H)) (before : List MemPlace)
    (hval : ∀ (j : Nat) t v, Try.f7.params[j]? = some t → args[j]? = some v → Value.okWide Try.prog W .any base t v)
    (hW : DataW.Whole enc Try.prog Try.f7.params.toList Rows.ladderOnceSpec.vars false W args.toList ds gs before) (hk : Rows.uptoSmall H (ds ++ gs) = true) :
    Calls Try.prog 7 args W fun e W' => ∃ v, e = .returned v ∧ Rows.ladderOnceSpec.post enc Try.prog Try.f7 false true false false W args v W' := by
  have hW' := hW
  obtain ⟨p, q, hA0, hV, rfl, _, _⟩ := hW
  have hA : DataW.TrodAll enc Try.prog W 0 (fun _ => true) true Try.f7.params.toList args.toList ds p := hA0
  obtain ⟨rfl, rfl⟩ := trodVars_none hV
  clear hA0
  simp only [List.append_nil] at hW'
  have hlt : ∀ x ∈ p, x.block < W.heap.size := fun x hx => by simpa using hW'.lt x (by simpa using hx)
  have hA1 := hA
  rw [Try.params7] at hA1 hval
  obtain ⟨v0, vs0, d0, ds0, p0, q0, hargs, rfl, rfl, h0, r0⟩ := trodAll_cons hA1
  obtain ⟨rfl, rfl, rfl⟩ := trodAll_nil r0
  obtain rfl : args = #[v0] := by cases args; simp_all
  obtain ⟨c, z, a0, cap, xs, rfl, hr, hb⟩ := script_in (hval 0 28 v0 rfl rfl) h0
  have hsm := of_decide_eq_true hk
  simp only [Rows.uptoBulkAll, List.append_nil] at hsm
  refine (once_any c z a0 cap xs W hr (by omega)).mono fun e W' ⟨he, hg⟩ => ?_
  subst he
  exact ⟨_, rfl, post_true hW' rfl rfl rfl (trodAll_below hg.below (by decide +kernel) hlt hA) rfl hg⟩
/-- A script to begin with. -/
def sc0 : Value := .agg (.int .i64 0 :: (List.replicate 64 (Value.int .u8 0) ++ [.int .i64 0, .int .i64 0, .slice none 0 0])).toArray
/-- What it reads as. -/
def data0 {H : Type} : DataW H := .agg [.agg [.lit (.int .i64 0), .agg (List.replicate 32 (.lit (.int .u8 0))), .agg (List.replicate 32 (.lit (.int .u8 0))), .lit (.int .i64 0)], .lit (.int .i64 0), .nil]
set_option maxRecDepth 100000 in
theorem lifted (os : Os) (started : os.Started) (H : Type) (enc : TypeId × Value → H) (F : Stop.Interp) :
    ReturnsInHanded {} Try.checked os 7 .any ((Rows.OpenSpec.upto Rows.ladderOnceSpec).pre6 enc Try.prog Try.f7 Rows.ladderOnceUptoRow.domain false) (((Rows.OpenSpec.upto Rows.ladderOnceSpec).at F).post enc Try.prog Try.f7 false true false false) := by
  refine returnsInHanded_of_cond (C := Try.checked) (s := Rows.OpenSpec.upto Rows.ladderOnceSpec) (k := Rows.uptoSmall) rfl own started (by kernel_rfl) Try.func7
    (OpenSpec.witness (enc := enc) (C := Try.checked) (s := Rows.OpenSpec.upto Rows.ladderOnceSpec) (k := Rows.uptoSmall) rfl false ⟨#[], #[sc0], []⟩ 80 (by kernel_rfl) (by kernel_rfl) (by kernel_rfl)
      (x := ([data0], [], [])) (by kernel_rfl) rfl (by kernel_rfl)) ?_
  intro W base args ds gs before hval hW _ hk _
  exact contract H enc W base args ds gs before hval hW hk
theorem over : Rows.ladderOnceUptoRow.holds Try.pinned (Rows.OpenSpec.upto Rows.ladderOnceSpec) :=
  OpenClaim.holds_of_cond 7 Try.f7 rfl rfl rfl rfl rfl rfl rfl ⟨rfl, rfl, rfl, rfl, rfl⟩ rfl rfl rfl rfl rfl (by kernel_rfl) Try.func7 (by kernel_rfl)
    (of_decide_eq_true (by kernel_rfl)) (by unfold Func.isWrapper; first | (rw [if_pos (by decide +kernel)]; kernel_rfl) | (rw [if_neg (by decide +kernel)]; exact ⟨rfl, rfl⟩))
    (fun os started H enc _ F => lifted os started H enc F)
theorem proved : Rows.LadderOnceUptoSaid :=
  over
#print axioms proved
end Go.Proofs.Ytmjdfglidfdkaaa.onceRow
