/- The statement of InboxRefuses (the second form: what the arguments read is of bulk at most 1048576) and its card. -/
import Derived.Test.YtmdgefiojapogaaDoorCloseI
import Derived.Test.YtmdgefiojapogaaDoorInRawIn
namespace Go.Proofs.YtmdgefiojapogaaDoor.inrefusesRow
open Go.ChangeShapes Go.WideShapes Go.ChangeAt Go.RowKit
def bytesLits {H : Type} (l : List UInt8) : List (DataW H) := l.map fun b => .lit (.int .u8 (b.toNat : Int))
set_option maxRecDepth 100000 in
theorem contract (H : Type) (enc : TypeId × Value → H) (W : World) (base : Nat) (args : Array Value) (ds gs : List (DataW H)) (before : List MemPlace)
    (hval : ∀ (j : Nat) t v, Tryd.f5.params[j]? = some t → args[j]? = some v → Value.okWide Tryd.prog W .any base t v)
    (hW : DataW.Whole enc Tryd.prog Tryd.f5.params.toList Rows.inboxRefusesSpec.vars false W args.toList ds gs before) (hL : laidMetH Tryd.prog Rows.inboxRefusesUptoRow.laid W)
    (hk : Rows.uptoSmall H (ds ++ gs) = true) :
    Calls Tryd.prog 5 args W fun e W' => ∃ v, e = .returned v ∧ Rows.inboxRefusesSpec.post enc Tryd.prog Tryd.f5 false true false false W args v W' := by
  have hW' := hW
  obtain ⟨p, q, hA0, hV, rfl, _, _⟩ := hW
  have hA : DataW.TrodAll enc Tryd.prog W 0 (fun _ => true) true Tryd.f5.params.toList args.toList ds p := hA0
  obtain ⟨rfl, rfl⟩ := trodVars_none hV
  clear hA0
  simp only [List.append_nil] at hW'
  have hlt : ∀ x ∈ p, x.block < W.heap.size := fun x hx => by simpa using hW'.lt x (by simpa using hx)
  have hA1 := hA
  rw [Tryd.params5] at hA1 hval
  obtain ⟨v0, v1, d0, d1, _, _, rfl, rfl, _, h0, h1⟩ := trodAll_two hA1
  obtain ⟨a0, len0, cap0, rfl⟩ := okWide_slice Tryd.underlying46 (hval 0 46 v0 rfl rfl)
  obtain ⟨l0, hl0, hr0, hbk0⟩ := raws_in h0
  subst hl0
  obtain ⟨x1, rfl, hx1⟩ := en_in (hval 1 35 v1 rfl rfl) h1
  have hsm := of_decide_eq_true hk
  simp only [Rows.uptoBulkAll, List.append_nil] at hsm
  obtain ⟨htr, htb, ht⟩ := tabs_of hL
  have R0 : Rf W := ⟨htr, htb⟩
  obtain ⟨hf, H0⟩ := hs_of ht
  have walk := refuses_law a0 cap0 l0.length l0 x1 W rfl (hr0 (by omega)) hx1.ln hx1.rd (by have := hx1.len; omega) H0 R0
  refine walk.mono fun e W' ⟨he, hg⟩ => ?_
  subst he
  exact ⟨_, rfl, post_true hW' rfl rfl rfl (trodAll_below hg.below (by decide +kernel) hlt hA) rfl hg⟩
theorem laid_met (os : Os) : laidMet Tryd.prog Rows.inboxRefusesUptoRow.laid ((laidWorld os).forCall (fun _ _ => 0) ⟨#[], #[.slice none 0 0, .agg (([.int .i64 0] : List Value) ++ ((zeros 20).map V8) ++ ([.int .i64 0] : List Value) ++ ([.int .i64 0] : List Value) ++ ((zeros 20).map V8) ++ ([.int .u64 0, .int .u64 0, .int .u64 0, .int .u64 0] : List Value) ++ ([.int .i64 0] : List Value) ++ ([.slice none 0 0] : List Value)).toArray], []⟩).memory :=
  laidMet_of_run' 80 (by kernel_rfl) (by kernel_rfl)
theorem reads (os : Os) {H : Type} (enc : TypeId × Value → H) : ∃ places, DataW.whole enc Tryd.prog ((laidWorld os).forCall (fun _ _ => 0) ⟨#[], #[.slice none 0 0, .agg (([.int .i64 0] : List Value) ++ ((zeros 20).map V8) ++ ([.int .i64 0] : List Value) ++ ([.int .i64 0] : List Value) ++ ((zeros 20).map V8) ++ ([.int .u64 0, .int .u64 0, .int .u64 0, .int .u64 0] : List Value) ++ ([.int .i64 0] : List Value) ++ ([.slice none 0 0] : List Value)).toArray], []⟩).memory Tryd.f5.params.toList Rows.inboxRefusesSpec.vars false (#[.slice none 0 0, .agg (([.int .i64 0] : List Value) ++ ((zeros 20).map V8) ++ ([.int .i64 0] : List Value) ++ ([.int .i64 0] : List Value) ++ ((zeros 20).map V8) ++ ([.int .u64 0, .int .u64 0, .int .u64 0, .int .u64 0] : List Value) ++ ([.int .i64 0] : List Value) ++ ([.slice none 0 0] : List Value)).toArray] : Array Value).toList 80 = some ([.nil, .agg [.lit (.int .i64 0), .agg (bytesLits (zeros 20)), .lit (.int .i64 0), .lit (.int .i64 0), .agg (bytesLits (zeros 20)), .agg [.lit (.int .u64 0), .lit (.int .u64 0), .lit (.int .u64 0), .lit (.int .u64 0)], .lit (.int .i64 0), .nil]], [], places) :=
  ⟨[], by kernel_rfl⟩
set_option maxRecDepth 100000 in
theorem liftedUpto (os : Os) (started : os.Started) (H : Type) (enc : TypeId × Value → H) (F : Stop.Interp) :
    ReturnsInHanded {} Tryd.checked os 5 .any ((Rows.OpenSpec.upto Rows.inboxRefusesSpec).preRow enc Tryd.prog Tryd.f5 Rows.inboxRefusesUptoRow.domain false Rows.inboxRefusesUptoRow.laid) (((Rows.OpenSpec.upto Rows.inboxRefusesSpec).at F).post enc Tryd.prog Tryd.f5 false true false false) := by
  obtain ⟨places, hx⟩ := reads os enc
  refine returnsInHanded_of_row (C := Tryd.checked) (s := Rows.OpenSpec.upto Rows.inboxRefusesSpec) own started (by kernel_rfl) Tryd.func5
    (witness_row_at (enc := enc) (C := Tryd.checked) false (laidWorld os) #[.slice none 0 0, .agg (([.int .i64 0] : List Value) ++ ((zeros 20).map V8) ++ ([.int .i64 0] : List Value) ++ ([.int .i64 0] : List Value) ++ ((zeros 20).map V8) ++ ([.int .u64 0, .int .u64 0, .int .u64 0, .int .u64 0] : List Value) ++ ([.int .i64 0] : List Value) ++ ([.slice none 0 0] : List Value)).toArray] rfl (by kernel_rfl) (by kernel_rfl) (by kernel_rfl)
      (OpenSpec.preRow_of_cond 80 hx (by kernel_rfl) (fun k hk => by cases hk; kernel_rfl) (by kernel_rfl) (laid_met os))) ?_
  intro W base args ds gs before hval hW _ hcond _ hL _ _
  exact contract H enc W base args ds gs before hval hW hL (hcond _ rfl)
theorem saidUpto : Rows.InboxRefusesUptoSaid :=
  OpenClaim.holds_of_cond 5 Tryd.f5 rfl rfl rfl rfl rfl rfl rfl ⟨rfl, rfl, rfl, rfl, rfl⟩ rfl rfl rfl rfl rfl (by kernel_rfl) Tryd.func5 (by kernel_rfl)
    (of_decide_eq_true (by kernel_rfl)) (by unfold Func.isWrapper; first | (rw [if_pos (by decide +kernel)]; kernel_rfl) | (rw [if_neg (by decide +kernel)]; exact ⟨rfl, rfl⟩))
    (fun os started H enc _ F => by rw [OpenClaim.pre_eq_preRow]; exact liftedUpto os started H enc F)
/-- No parameter wants a stand-in; the program's own looks are off: what the card asks. -/
theorem plain (f : FuncId) (fn : Func) (hf : Tryd.pinned.checked.prog.funcNamed "causeway/causewaylaw15.InboxRefuses" = some f) (hfn : Tryd.pinned.checked.prog.funcs[f]? = some fn) :
    false = Tryd.pinned.checked.prog.looks [] ∧ ∀ (j : Nat) t, fn.params[j]? = some t → Tryd.pinned.checked.prog.wantsStandIn t = false := by
  obtain rfl : f = 5 := Option.some.inj ((show Tryd.prog.funcNamed "causeway/causewaylaw15.InboxRefuses" = some 5 by kernel_rfl).symm.trans hf) |>.symm
  obtain rfl : fn = Tryd.f5 := (Option.some.inj (Tryd.func5.symm.trans hfn)).symm
  refine ⟨by kernel_rfl, fun j t ht => ?_⟩
  rw [Tryd.params5] at ht
  have hm := Array.mem_of_getElem? ht
  have hall : ∀ t ∈ (#[46, 35] : Array TypeId), Tryd.prog.wantsStandIn t = false := by decide +kernel
  exact hall t hm
/-- The second form's card. -/
theorem cardUpto : Rows.InboxRefusesUptoCardSaid :=
  Claim7.holds_tied_plain_at .later [] _ _ _ _ saidUpto (fun _ h => by cases h) (by kernel_rfl) (fun _ h => by cases h) inboxRefusesUpto_row_tie rfl ⟨rfl, rfl⟩ (by kernel_rfl) rfl plain (by kernel_rfl)
#print axioms cardUpto
end Go.Proofs.YtmdgefiojapogaaDoor.inrefusesRow
