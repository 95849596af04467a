/- Calls as steps of a region that draws its order. No condition. -/
import Derived.Test.YtbbobpjcbnfpfaaDoorMem
import Derived.Deep.RegionLaw
namespace Go.Proofs.YtbbobpjcbnfpfaaDoor
open Go.RowKit
/-- A call with one argument as one step of a region that draws its order, its answer told by what holds behind it. -/
theorem step_call1x {P : Program} {ops : Array Oper} {o : Oper} {a : Act} {w : World} {K : Act → World → Prop} {Q : Exit → Act → World → Prop} {E : Prop} (hgd : o.guard = none) (f : FuncId) (x : Operand) (ats : Array TypeId)
    (ho : o.op = .call { callee := .value (.func f), args := #[x], argTypes := ats }) (u : Value) (hv : a.eval x = u) (hf : ∀ (xs : Array Value) (w : World), (callFunc f xs).run P w = .ok (.enter f xs) w) {R : Value → World → Prop}
    (hc : Calls P f #[u] w fun e w' => ∃ v, e = .returned v ∧ R v w') (h : ∀ v w', R v w' → K (a.put o.dst v) w') :
    if Region.wanted o (yielded ops a.tmps) = true then Oper.wp P o a w K Q else E := by
  have hw : Region.wanted o (yielded ops a.tmps) = true := by simp [Region.wanted, hgd]
  rw [if_pos hw]
  subst hv
  have hrun : (execOp a.eval o).run P w = .ok (.enter f #[a.eval x]) w := by
    simp [execOp, ho, resolve, invoke, Act.eval, Deferred.ofValue, hf]
  unfold Oper.wp
  rw [hrun]
  exact hc.mono fun e w' ⟨v, he, hr⟩ => by subst he; exact h v w' hr
/-- A call with two arguments as one step of a region that draws its order, its answer told by what holds behind it. -/
theorem step_call2x {P : Program} {ops : Array Oper} {o : Oper} {a : Act} {w : World} {K : Act → World → Prop} {Q : Exit → Act → World → Prop} {E : Prop} (hgd : o.guard = none) (f : FuncId) (x x2 : Operand) (ats : Array TypeId)
    (ho : o.op = .call { callee := .value (.func f), args := #[x, x2], argTypes := ats }) (u u2 : Value) (hv : a.eval x = u) (hv2 : a.eval x2 = u2) (hf : ∀ (xs : Array Value) (w : World), (callFunc f xs).run P w = .ok (.enter f xs) w) {R : Value → World → Prop}
    (hc : Calls P f #[u, u2] w fun e w' => ∃ v, e = .returned v ∧ R v w') (h : ∀ v w', R v w' → K (a.put o.dst v) w') :
    if Region.wanted o (yielded ops a.tmps) = true then Oper.wp P o a w K Q else E := by
  have hw : Region.wanted o (yielded ops a.tmps) = true := by simp [Region.wanted, hgd]
  rw [if_pos hw]
  subst hv hv2
  have hrun : (execOp a.eval o).run P w = .ok (.enter f #[a.eval x, a.eval x2]) w := by
    simp [execOp, ho, resolve, invoke, Act.eval, Deferred.ofValue, hf]
  unfold Oper.wp
  rw [hrun]
  exact hc.mono fun e w' ⟨v, he, hr⟩ => by subst he; exact h v w' hr
end Go.Proofs.YtbbobpjcbnfpfaaDoor
