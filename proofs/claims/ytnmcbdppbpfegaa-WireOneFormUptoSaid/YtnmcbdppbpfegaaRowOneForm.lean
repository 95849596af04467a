/- The statement of WireOneForm (the second form: what the arguments read is of bulk at most 1048576). -/
import Derived.Test.YtnmcbdppbpfegaaPostInts
import Derived.Test.YtnmcbdppbpfegaaWpIn
import Derived.Test.YtnmcbdppbpfegaaRtLaw
import Derived.Test.YtnmcbdppbpfegaaRows
namespace Go.Proofs.Ytnmcbdppbpfegaa.oneFormRow
open Go.ChangeShapes Go.WideShapes Go.ChangeAt Go.RowKit
set_option maxRecDepth 100000 in
theorem contract (H : Type) (enc : TypeId × Value → H) (W : World) (base : Nat) (args : Array Value) (ds gs : List (DataW H)) (before : List MemPlace)
    (hval : ∀ (j : Nat) t v, Try.f7.params[j]? = some t → args[j]? = some v → Value.okWide Try.prog W .any base t v)
    (hW : DataW.Whole enc Try.prog Try.f7.params.toList Rows.wireOneFormSpec.vars false W args.toList ds gs before) (hk : Rows.uptoSmall H (ds ++ gs) = true) :
    Calls Try.prog 7 args W fun e W' => ∃ v, e = .returned v ∧ Rows.wireOneFormSpec.post enc Try.prog Try.f7 false true false false W args v W' := by
  have hW' := hW
  obtain ⟨p, q, hA0, hV, rfl, _, _⟩ := hW
  have hA : DataW.TrodAll enc Try.prog W 0 (fun _ => true) true Try.f7.params.toList args.toList ds p := hA0
  obtain ⟨rfl, rfl⟩ := trodVars_none hV
  clear hA0
  simp only [List.append_nil] at hW'
  have hlt : ∀ x ∈ p, x.block < W.heap.size := fun x hx => by simpa using hW'.lt x (by simpa using hx)
  have hA1 := hA
  rw [Try.params7] at hA1 hval
  obtain ⟨v0, v1, d0, d1, _, _, rfl, rfl, _, h0, h1⟩ := trodAll_two hA1
  obtain ⟨a0, len0, cap0, rfl⟩ := okWide_slice Try.underlying22 (hval 0 22 v0 rfl rfl)
  obtain ⟨l0, hl0, hr0, hbk0⟩ := bytes_in h0
  subst hl0
  obtain ⟨a1, len1, cap1, rfl⟩ := okWide_slice Try.underlying40 (hval 1 40 v1 rfl rfl)
  obtain ⟨xs, hl, hr, hks, _, hb⟩ := spsteps_in h1
  subst hl
  have hsm := of_decide_eq_true hk
  simp only [Rows.uptoBulkAll, List.append_nil] at hsm
  refine (oneform_law a0 cap0 l0 a1 cap1 xs W hr0 (by omega) hr (by omega) (fun s hs => by obtain ⟨m, hi⟩ := hks s hs; exact ⟨hi.k0, hi.k1⟩)).mono fun e W' ⟨he, hg⟩ => ?_
  subst he
  exact ⟨_, rfl, post_true hW' rfl rfl rfl (trodAll_below hg.below (by decide +kernel) hlt hA) rfl hg⟩
set_option maxRecDepth 100000 in
theorem lifted (os : Os) (started : os.Started) (H : Type) (enc : TypeId × Value → H) (F : Stop.Interp) :
    ReturnsInHanded {} Try.checked os 7 .any ((Rows.OpenSpec.upto Rows.wireOneFormSpec).pre6 enc Try.prog Try.f7 Rows.wireOneFormUptoRow.domain false) (((Rows.OpenSpec.upto Rows.wireOneFormSpec).at F).post enc Try.prog Try.f7 false true false false) := by
  refine returnsInHanded_of_cond (C := Try.checked) (s := Rows.OpenSpec.upto Rows.wireOneFormSpec) (k := Rows.uptoSmall) rfl own started (by kernel_rfl) Try.func7
    (OpenSpec.witness (enc := enc) (C := Try.checked) (s := Rows.OpenSpec.upto Rows.wireOneFormSpec) (k := Rows.uptoSmall) rfl false ⟨#[], #[.slice none 0 0, .slice none 0 0], []⟩ 80 (by kernel_rfl) (by kernel_rfl) (by kernel_rfl)
      (x := ([.nil, .nil], [], [])) (by kernel_rfl) rfl (by kernel_rfl)) ?_
  intro W base args ds gs before hval hW _ hk _
  exact contract H enc W base args ds gs before hval hW hk
theorem over : Rows.wireOneFormUptoRow.holds Try.pinned (Rows.OpenSpec.upto Rows.wireOneFormSpec) :=
  OpenClaim.holds_of_cond 7 Try.f7 rfl rfl rfl rfl rfl rfl rfl ⟨rfl, rfl, rfl, rfl, rfl⟩ rfl rfl rfl rfl rfl (by kernel_rfl) Try.func7 (by kernel_rfl)
    (of_decide_eq_true (by kernel_rfl)) (by unfold Func.isWrapper; first | (rw [if_pos (by decide +kernel)]; kernel_rfl) | (rw [if_neg (by decide +kernel)]; exact ⟨rfl, rfl⟩))
    (fun os started H enc _ F => lifted os started H enc F)
theorem proved : Rows.WireOneFormUptoSaid :=
  over
#print axioms proved
end Go.Proofs.Ytnmcbdppbpfegaa.oneFormRow
