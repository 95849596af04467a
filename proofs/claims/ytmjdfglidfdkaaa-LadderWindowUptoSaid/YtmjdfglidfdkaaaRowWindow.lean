/- The statement of LadderWindow (the second form: what the arguments read is of bulk at most 1048576; the proof asks no bound). -/
import Derived.Test.YtmjdfglidfdkaaaLwClose
import Derived.Test.YtmjdfglidfdkaaaLwWin3
import Derived.Test.YtmjdfglidfdkaaaRows
namespace Go.Proofs.Ytmjdfglidfdkaaa.windowRow
open Go.ChangeShapes Go.WideShapes Go.ChangeAt Go.RowKit

theorem window_any (c : Cm) (z t : Int) (w : World) : Calls Try.prog 4 #[cv c, .int .i64 z, .int .i64 t] w fun e w' => e = .returned (.bool true) ∧ Mod [] w w' := by
  by_cases h : newErr c z = 0
  · by_cases ho : 1099511627776 ≤ c.count ∨ t < 0 ∨ 4611686018427387904 ≤ t
    · exact window_out c z t w h ho
    · by_cases hl : 4611686018427387904 - z < t
      · exact window_late c z t w h (by omega) (by omega) (by omega) hl
      · exact window_main c z t w h (by omega) (by omega) (by omega) (by omega)
  · exact window_none c z t w h

set_option maxRecDepth 100000 in
theorem contract (H : Type) (enc : TypeId × Value → H) (W : World) (base : Nat) (args : Array Value) (ds gs : List (DataW H)) (before : List MemPlace)
    (hval : ∀ (j : Nat) t v, Try.f4.params[j]? = some t → args[j]? = some v → Value.okWide Try.prog W .any base t v)
    (hW : DataW.Whole enc Try.prog Try.f4.params.toList Rows.ladderWindowSpec.vars false W args.toList ds gs before) :
    Calls Try.prog 4 args W fun e W' => ∃ v, e = .returned v ∧ Rows.ladderWindowSpec.post enc Try.prog Try.f4 false true false false W args v W' := by
  have hW' := hW
  obtain ⟨p, q, hA0, hV, rfl, _, _⟩ := hW
  have hA : DataW.TrodAll enc Try.prog W 0 (fun _ => true) true Try.f4.params.toList args.toList ds p := hA0
  obtain ⟨rfl, rfl⟩ := trodVars_none hV
  clear hA0
  simp only [List.append_nil] at hW'
  have hlt : ∀ x ∈ p, x.block < W.heap.size := fun x hx => by simpa using hW'.lt x (by simpa using hx)
  have hA1 := hA
  rw [Try.params4] at hA1 hval
  obtain ⟨v0, vs0, d0, ds0, p0, q0, hargs, rfl, rfl, h0, r0⟩ := trodAll_cons hA1
  obtain ⟨v1, vs1, d1, ds1, p1, q1, rfl, rfl, rfl, h1, r1⟩ := trodAll_cons r0
  obtain ⟨v2, vs2, d2, ds2, p2, q2, rfl, rfl, rfl, h2, r2⟩ := trodAll_cons r1
  obtain ⟨rfl, rfl, rfl⟩ := trodAll_nil r2
  obtain rfl : args = #[v0, v1, v2] := by cases args; simp_all
  obtain ⟨c, rfl, _, _⟩ := cm_in (hval 0 25 v0 rfl rfl) h0
  obtain ⟨z, rfl, _, _, _⟩ := open_int Try.underlying3 (hval 1 3 v1 rfl rfl) h1
  obtain ⟨t, rfl, _, _, _⟩ := open_int Try.underlying3 (hval 2 3 v2 rfl rfl) h2
  refine (window_any c z t W).mono fun e W' ⟨he, hg⟩ => ?_
  subst he
  exact ⟨_, rfl, post_true hW' rfl rfl rfl (trodAll_below hg.below (by decide +kernel) hlt hA) rfl hg⟩
/-- A commit to begin with. -/
def cm0 : Value := .agg (.int .i64 0 :: (List.replicate 64 (Value.int .u8 0) ++ [.int .i64 0])).toArray
/-- What it reads as. -/
def data0 {H : Type} : DataW H := .agg [.lit (.int .i64 0), .agg (List.replicate 32 (.lit (.int .u8 0))), .agg (List.replicate 32 (.lit (.int .u8 0))), .lit (.int .i64 0)]
set_option maxRecDepth 100000 in
theorem lifted (os : Os) (started : os.Started) (H : Type) (enc : TypeId × Value → H) (F : Stop.Interp) :
    ReturnsInHanded {} Try.checked os 4 .any ((Rows.OpenSpec.upto Rows.ladderWindowSpec).pre6 enc Try.prog Try.f4 Rows.ladderWindowUptoRow.domain false) (((Rows.OpenSpec.upto Rows.ladderWindowSpec).at F).post enc Try.prog Try.f4 false true false false) := by
  refine returnsInHanded_of_cond (C := Try.checked) (s := Rows.OpenSpec.upto Rows.ladderWindowSpec) (k := Rows.uptoSmall) rfl own started (by kernel_rfl) Try.func4
    (OpenSpec.witness (enc := enc) (C := Try.checked) (s := Rows.OpenSpec.upto Rows.ladderWindowSpec) (k := Rows.uptoSmall) rfl false ⟨#[], #[cm0, .int .i64 0, .int .i64 0], []⟩ 80 (by kernel_rfl) (by kernel_rfl) (by kernel_rfl)
      (x := ([data0, .lit (.int .i64 0), .lit (.int .i64 0)], [], [])) (by kernel_rfl) rfl (by kernel_rfl)) ?_
  intro W base args ds gs before hval hW _ hk _
  exact contract H enc W base args ds gs before hval hW
theorem over : Rows.ladderWindowUptoRow.holds Try.pinned (Rows.OpenSpec.upto Rows.ladderWindowSpec) :=
  OpenClaim.holds_of_cond 4 Try.f4 rfl rfl rfl rfl rfl rfl rfl ⟨rfl, rfl, rfl, rfl, rfl⟩ rfl rfl rfl rfl rfl (by kernel_rfl) Try.func4 (by kernel_rfl)
    (of_decide_eq_true (by kernel_rfl)) (by unfold Func.isWrapper; first | (rw [if_pos (by decide +kernel)]; kernel_rfl) | (rw [if_neg (by decide +kernel)]; exact ⟨rfl, rfl⟩))
    (fun os started H enc _ F => lifted os started H enc F)
theorem proved : Rows.LadderWindowUptoSaid :=
  over
#print axioms proved
end Go.Proofs.Ytmjdfglidfdkaaa.windowRow
