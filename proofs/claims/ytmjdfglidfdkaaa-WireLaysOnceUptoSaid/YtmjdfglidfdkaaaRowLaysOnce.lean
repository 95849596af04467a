/- The statement of WireLaysOnce (the second form: what the arguments read is of bulk at most 1048576). -/
import Derived.Test.YtmjdfglidfdkaaaPostInts
import Derived.Test.YtmjdfglidfdkaaaWlLaw
import Derived.Test.YtmjdfglidfdkaaaRows
namespace Go.Proofs.Ytmjdfglidfdkaaa.laysOnceRow
open Go.ChangeShapes Go.WideShapes Go.ChangeAt Go.RowKit
set_option maxRecDepth 100000 in
theorem contract (H : Type) (enc : TypeId × Value → H) (W : World) (base : Nat) (args : Array Value) (ds gs : List (DataW H)) (before : List MemPlace)
    (hval : ∀ (j : Nat) t v, Try.f8.params[j]? = some t → args[j]? = some v → Value.okWide Try.prog W .any base t v)
    (hW : DataW.Whole enc Try.prog Try.f8.params.toList Rows.wireLaysOnceSpec.vars false W args.toList ds gs before) (hk : Rows.uptoSmall H (ds ++ gs) = true) :
    Calls Try.prog 8 args W fun e W' => ∃ v, e = .returned v ∧ Rows.wireLaysOnceSpec.post enc Try.prog Try.f8 false true false false W args v W' := by
  have hW' := hW
  obtain ⟨p, q, hA0, hV, rfl, _, _⟩ := hW
  have hA : DataW.TrodAll enc Try.prog W 0 (fun _ => true) true Try.f8.params.toList args.toList ds p := hA0
  obtain ⟨rfl, rfl⟩ := trodVars_none hV
  clear hA0
  simp only [List.append_nil] at hW'
  have hlt : ∀ x ∈ p, x.block < W.heap.size := fun x hx => by simpa using hW'.lt x (by simpa using hx)
  have hA1 := hA
  rw [Try.params8] at hA1 hval
  obtain ⟨v0, v1, d0, d1, p0, p1, rfl, rfl, rfl, h0, h1⟩ := trodAll_two hA1
  obtain ⟨a0, len0, cap0, rfl⟩ := okWide_slice Try.underlying62 (hval 0 62 v0 rfl rfl)
  obtain ⟨l0, hl0, hr0, hw0, hbk0⟩ := ints_in h0
  subst hl0
  obtain ⟨a1, len1, cap1, rfl⟩ := okWide_slice Try.underlying62 (hval 1 62 v1 rfl rfl)
  obtain ⟨l1, hl1, hr1, hw1, hbk1⟩ := ints_in h1
  subst hl1
  have hsm := of_decide_eq_true hk
  simp only [Rows.uptoBulkAll, List.append_nil] at hsm
  refine (lo_main a0 a1 cap0 cap1 l0 l1 W hr0 hr1 (by omega) (by omega) (fun x hx => (hw0 x hx).2) (fun x hx => (hw1 x hx).2)).mono fun e W' ⟨he, hg⟩ => ?_
  subst he
  exact ⟨_, rfl, post_true hW' rfl rfl rfl (trodAll_below hg.below (by decide +kernel) hlt hA) rfl hg⟩
set_option maxRecDepth 100000 in
theorem lifted (os : Os) (started : os.Started) (H : Type) (enc : TypeId × Value → H) (F : Stop.Interp) :
    ReturnsInHanded {} Try.checked os 8 .any ((Rows.OpenSpec.upto Rows.wireLaysOnceSpec).pre6 enc Try.prog Try.f8 Rows.wireLaysOnceUptoRow.domain false) (((Rows.OpenSpec.upto Rows.wireLaysOnceSpec).at F).post enc Try.prog Try.f8 false true false false) := by
  refine returnsInHanded_of_cond (C := Try.checked) (s := Rows.OpenSpec.upto Rows.wireLaysOnceSpec) (k := Rows.uptoSmall) rfl own started (by kernel_rfl) Try.func8
    (OpenSpec.witness (enc := enc) (C := Try.checked) (s := Rows.OpenSpec.upto Rows.wireLaysOnceSpec) (k := Rows.uptoSmall) rfl false ⟨#[], #[.slice none 0 0, .slice none 0 0], []⟩ 80 (by kernel_rfl) (by kernel_rfl) (by kernel_rfl)
      (x := ([.nil, .nil], [], [])) (by kernel_rfl) rfl (by kernel_rfl)) ?_
  intro W base args ds gs before hval hW _ hk _
  exact contract H enc W base args ds gs before hval hW hk
theorem over : Rows.wireLaysOnceUptoRow.holds Try.pinned (Rows.OpenSpec.upto Rows.wireLaysOnceSpec) :=
  OpenClaim.holds_of_cond 8 Try.f8 rfl rfl rfl rfl rfl rfl rfl ⟨rfl, rfl, rfl, rfl, rfl⟩ rfl rfl rfl rfl rfl (by kernel_rfl) Try.func8 (by kernel_rfl)
    (of_decide_eq_true (by kernel_rfl)) (by unfold Func.isWrapper; first | (rw [if_pos (by decide +kernel)]; kernel_rfl) | (rw [if_neg (by decide +kernel)]; exact ⟨rfl, rfl⟩))
    (fun os started H enc _ F => lifted os started H enc F)
theorem proved : Rows.WireLaysOnceUptoSaid :=
  over
#print axioms proved
end Go.Proofs.Ytmjdfglidfdkaaa.laysOnceRow
