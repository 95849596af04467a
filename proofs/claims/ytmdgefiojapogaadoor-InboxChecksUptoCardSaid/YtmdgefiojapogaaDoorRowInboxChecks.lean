/- The statement of InboxChecks (the second form: what the arguments read is of bulk at most 1048576) and its card. -/
import Derived.Test.YtmdgefiojapogaaDoorCloseI
import Derived.Test.YtmdgefiojapogaaDoorInRawInM
import Derived.Test.YtmdgefiojapogaaDoorLawInChecks
namespace Go.Proofs.YtmdgefiojapogaaDoor.inchecksRow
open Go.ChangeShapes Go.WideShapes Go.ChangeAt Go.RowKit
def bytesLits {H : Type} (l : List UInt8) : List (DataW H) := l.map fun b => .lit (.int .u8 (b.toNat : Int))
set_option maxRecDepth 100000 in
theorem contract (H : Type) (enc : TypeId × Value → H) (W : World) (base : Nat) (args : Array Value) (ds gs : List (DataW H)) (before : List MemPlace)
    (hval : ∀ (j : Nat) t v, Tryd.f4.params[j]? = some t → args[j]? = some v → Value.okWide Tryd.prog W .any base t v)
    (hW : DataW.Whole enc Tryd.prog Tryd.f4.params.toList Rows.inboxChecksSpec.vars false W args.toList ds gs before) (hL : laidMetH Tryd.prog Rows.inboxChecksUptoRow.laid W)
    (hk : Rows.uptoSmall H (ds ++ gs) = true) :
    Calls Tryd.prog 4 args W fun e W' => ∃ v, e = .returned v ∧ Rows.inboxChecksSpec.post enc Tryd.prog Tryd.f4 false true false false W args v W' := by
  have hW' := hW
  obtain ⟨p, q, hA0, hV, rfl, _, _⟩ := hW
  have hA : DataW.TrodAll enc Tryd.prog W 0 (fun _ => true) true Tryd.f4.params.toList args.toList ds p := hA0
  obtain ⟨rfl, rfl⟩ := trodVars_none hV
  clear hA0
  simp only [List.append_nil] at hW'
  have hlt : ∀ x ∈ p, x.block < W.heap.size := fun x hx => by simpa using hW'.lt x (by simpa using hx)
  have hA1 := hA
  rw [Tryd.params4] at hA1 hval
  obtain ⟨v0, v1, v2, d0, d1, d2, _, _, _, rfl, rfl, _, h0, h1, h2⟩ := trodAll_three hA1
  obtain ⟨x0, hx0, rfl⟩ := digest_in (hval 0 24 v0 rfl rfl) h0
  obtain ⟨a1, len1, cap1, rfl⟩ := okWide_slice Tryd.underlying25 (hval 1 25 v1 rfl rfl)
  obtain ⟨l1, hl1, hr1, hbk1⟩ := ens_in h1
  subst hl1
  obtain ⟨x2, hx2, rfl⟩ := digest_in (hval 2 24 v2 rfl rfl) h2
  have hsm := of_decide_eq_true hk
  simp only [Rows.uptoBulkAll, List.append_nil] at hsm
  obtain ⟨htr, htb, ht⟩ := tabs_of hL
  have R0 : Rf W := ⟨htr, htb⟩
  obtain ⟨hf, H0⟩ := hs_of ht
  have walk := checks_law x0 x2 hx0 hx2 a1 cap1 l1.length l1 W rfl (hr1 (by omega)).1 (by omega) (hr1 (by omega)).2 H0 R0
  refine walk.mono fun e W' ⟨he, hg⟩ => ?_
  subst he
  exact ⟨_, rfl, post_true hW' rfl rfl rfl (trodAll_below hg.below (by decide +kernel) hlt hA) rfl hg⟩
theorem laid_met (os : Os) : laidMet Tryd.prog Rows.inboxChecksUptoRow.laid ((laidWorld os).forCall (fun _ _ => 0) ⟨#[], #[.agg (((zeros 32).map V8)).toArray, .slice none 0 0, .agg (((zeros 32).map V8)).toArray], []⟩).memory :=
  laidMet_of_run' 80 (by kernel_rfl) (by kernel_rfl)
theorem reads (os : Os) {H : Type} (enc : TypeId × Value → H) : ∃ places, DataW.whole enc Tryd.prog ((laidWorld os).forCall (fun _ _ => 0) ⟨#[], #[.agg (((zeros 32).map V8)).toArray, .slice none 0 0, .agg (((zeros 32).map V8)).toArray], []⟩).memory Tryd.f4.params.toList Rows.inboxChecksSpec.vars false (#[.agg (((zeros 32).map V8)).toArray, .slice none 0 0, .agg (((zeros 32).map V8)).toArray] : Array Value).toList 80 = some ([.agg (bytesLits (zeros 32)), .nil, .agg (bytesLits (zeros 32))], [], places) :=
  ⟨[], by kernel_rfl⟩
set_option maxRecDepth 100000 in
theorem liftedUpto (os : Os) (started : os.Started) (H : Type) (enc : TypeId × Value → H) (F : Stop.Interp) :
    ReturnsInHanded {} Tryd.checked os 4 .any ((Rows.OpenSpec.upto Rows.inboxChecksSpec).preRow enc Tryd.prog Tryd.f4 Rows.inboxChecksUptoRow.domain false Rows.inboxChecksUptoRow.laid) (((Rows.OpenSpec.upto Rows.inboxChecksSpec).at F).post enc Tryd.prog Tryd.f4 false true false false) := by
  obtain ⟨places, hx⟩ := reads os enc
  refine returnsInHanded_of_row (C := Tryd.checked) (s := Rows.OpenSpec.upto Rows.inboxChecksSpec) own started (by kernel_rfl) Tryd.func4
    (witness_row_at (enc := enc) (C := Tryd.checked) false (laidWorld os) #[.agg (((zeros 32).map V8)).toArray, .slice none 0 0, .agg (((zeros 32).map V8)).toArray] rfl (by kernel_rfl) (by kernel_rfl) (by kernel_rfl)
      (OpenSpec.preRow_of_cond 80 hx (by kernel_rfl) (fun k hk => by cases hk; kernel_rfl) (by kernel_rfl) (laid_met os))) ?_
  intro W base args ds gs before hval hW _ hcond _ hL _ _
  exact contract H enc W base args ds gs before hval hW hL (hcond _ rfl)
theorem saidUpto : Rows.InboxChecksUptoSaid :=
  OpenClaim.holds_of_cond 4 Tryd.f4 rfl rfl rfl rfl rfl rfl rfl ⟨rfl, rfl, rfl, rfl, rfl⟩ rfl rfl rfl rfl rfl (by kernel_rfl) Tryd.func4 (by kernel_rfl)
    (of_decide_eq_true (by kernel_rfl)) (by unfold Func.isWrapper; first | (rw [if_pos (by decide +kernel)]; kernel_rfl) | (rw [if_neg (by decide +kernel)]; exact ⟨rfl, rfl⟩))
    (fun os started H enc _ F => by rw [OpenClaim.pre_eq_preRow]; exact liftedUpto os started H enc F)
/-- No parameter wants a stand-in; the program's own looks are off: what the card asks. -/
theorem plain (f : FuncId) (fn : Func) (hf : Tryd.pinned.checked.prog.funcNamed "causeway/causewaylaw15.InboxChecks" = some f) (hfn : Tryd.pinned.checked.prog.funcs[f]? = some fn) :
    false = Tryd.pinned.checked.prog.looks [] ∧ ∀ (j : Nat) t, fn.params[j]? = some t → Tryd.pinned.checked.prog.wantsStandIn t = false := by
  obtain rfl : f = 4 := Option.some.inj ((show Tryd.prog.funcNamed "causeway/causewaylaw15.InboxChecks" = some 4 by kernel_rfl).symm.trans hf) |>.symm
  obtain rfl : fn = Tryd.f4 := (Option.some.inj (Tryd.func4.symm.trans hfn)).symm
  refine ⟨by kernel_rfl, fun j t ht => ?_⟩
  rw [Tryd.params4] at ht
  have hm := Array.mem_of_getElem? ht
  have hall : ∀ t ∈ (#[24, 25, 24] : Array TypeId), Tryd.prog.wantsStandIn t = false := by decide +kernel
  exact hall t hm
/-- The second form's card. -/
theorem cardUpto : Rows.InboxChecksUptoCardSaid :=
  Claim7.holds_tied_plain_at .later [] _ _ _ _ saidUpto (fun _ h => by cases h) (by kernel_rfl) (fun _ h => by cases h) inboxChecksUpto_row_tie rfl ⟨rfl, rfl⟩ (by kernel_rfl) rfl plain (by kernel_rfl)
#print axioms cardUpto
end Go.Proofs.YtmdgefiojapogaaDoor.inchecksRow
