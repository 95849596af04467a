/- The statement of WireAsksOnce (the second form: what the arguments read is of bulk at most 1048576). -/
import Derived.Test.YtnmcbdppbpfegaaPostInts
import Derived.Test.YtnmcbdppbpfegaaWaLaw
import Derived.Test.YtnmcbdppbpfegaaRows
namespace Go.Proofs.Ytnmcbdppbpfegaa.asksOnceRow
open Go.ChangeShapes Go.WideShapes Go.ChangeAt Go.RowKit
set_option maxRecDepth 100000 in
theorem contract (H : Type) (enc : TypeId × Value → H) (W : World) (base : Nat) (args : Array Value) (ds gs : List (DataW H)) (before : List MemPlace)
    (hval : ∀ (j : Nat) t v, Try.f3.params[j]? = some t → args[j]? = some v → Value.okWide Try.prog W .any base t v)
    (hW : DataW.Whole enc Try.prog Try.f3.params.toList Rows.wireAsksOnceSpec.vars false W args.toList ds gs before) (hk : Rows.uptoSmall H (ds ++ gs) = true) :
    Calls Try.prog 3 args W fun e W' => ∃ v, e = .returned v ∧ Rows.wireAsksOnceSpec.post enc Try.prog Try.f3 false true false false W args v W' := by
  have hW' := hW
  obtain ⟨p, q, hA0, hV, rfl, _, _⟩ := hW
  have hA : DataW.TrodAll enc Try.prog W 0 (fun _ => true) true Try.f3.params.toList args.toList ds p := hA0
  obtain ⟨rfl, rfl⟩ := trodVars_none hV
  clear hA0
  simp only [List.append_nil] at hW'
  have hlt : ∀ x ∈ p, x.block < W.heap.size := fun x hx => by simpa using hW'.lt x (by simpa using hx)
  have hA1 := hA
  rw [Try.params3] at hA1 hval
  obtain ⟨v0, v1, v2, d0, d1, d2, _, _, _, rfl, rfl, _, h0, h1, h2⟩ := trodAll_three hA1
  obtain ⟨a0, len0, cap0, rfl⟩ := okWide_slice Try.underlying22 (hval 0 22 v0 rfl rfl)
  obtain ⟨l0, hl0, hr0, hbk0⟩ := bytes_in h0
  subst hl0
  obtain ⟨n1, rfl, rfl, _, hw1⟩ := open_int Try.underlying3 (hval 1 3 v1 rfl rfl) h1
  obtain ⟨n2, rfl, rfl, _, hw2⟩ := open_int Try.underlying3 (hval 2 3 v2 rfl rfl) h2
  have hn2 := int64_of hw2
  have hsm := of_decide_eq_true hk
  simp only [Rows.uptoBulkAll, List.append_nil] at hsm
  refine (asks_main a0 cap0 l0 n1 n2 W hr0 (by omega) hn2.1 hn2.2).mono fun e W' ⟨he, hg⟩ => ?_
  subst he
  exact ⟨_, rfl, post_true hW' rfl rfl rfl (trodAll_below hg.below (by decide +kernel) hlt hA) rfl hg⟩
set_option maxRecDepth 100000 in
theorem lifted (os : Os) (started : os.Started) (H : Type) (enc : TypeId × Value → H) (F : Stop.Interp) :
    ReturnsInHanded {} Try.checked os 3 .any ((Rows.OpenSpec.upto Rows.wireAsksOnceSpec).pre6 enc Try.prog Try.f3 Rows.wireAsksOnceUptoRow.domain false) (((Rows.OpenSpec.upto Rows.wireAsksOnceSpec).at F).post enc Try.prog Try.f3 false true false false) := by
  refine returnsInHanded_of_cond (C := Try.checked) (s := Rows.OpenSpec.upto Rows.wireAsksOnceSpec) (k := Rows.uptoSmall) rfl own started (by kernel_rfl) Try.func3
    (OpenSpec.witness (enc := enc) (C := Try.checked) (s := Rows.OpenSpec.upto Rows.wireAsksOnceSpec) (k := Rows.uptoSmall) rfl false ⟨#[], #[.slice none 0 0, .int .i64 0, .int .i64 0], []⟩ 80 (by kernel_rfl) (by kernel_rfl) (by kernel_rfl)
      (x := ([.nil, .lit (.int .i64 0), .lit (.int .i64 0)], [], [])) (by kernel_rfl) rfl (by kernel_rfl)) ?_
  intro W base args ds gs before hval hW _ hk _
  exact contract H enc W base args ds gs before hval hW hk
theorem over : Rows.wireAsksOnceUptoRow.holds Try.pinned (Rows.OpenSpec.upto Rows.wireAsksOnceSpec) :=
  OpenClaim.holds_of_cond 3 Try.f3 rfl rfl rfl rfl rfl rfl rfl ⟨rfl, rfl, rfl, rfl, rfl⟩ rfl rfl rfl rfl rfl (by kernel_rfl) Try.func3 (by kernel_rfl)
    (of_decide_eq_true (by kernel_rfl)) (by unfold Func.isWrapper; first | (rw [if_pos (by decide +kernel)]; kernel_rfl) | (rw [if_neg (by decide +kernel)]; exact ⟨rfl, rfl⟩))
    (fun os started H enc _ F => lifted os started H enc F)
theorem proved : Rows.WireAsksOnceUptoSaid :=
  over
#print axioms proved
end Go.Proofs.Ytnmcbdppbpfegaa.asksOnceRow
