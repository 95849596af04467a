/- A call of a Go function as one step of a region that draws its order. No condition. -/
import Derived.Test.YtmjdfglidfdkaaaSl
namespace Go.Proofs.Ytmjdfglidfdkaaa
open Go.RowKit
/-- A call of a Go function as one step of a region that draws its order. -/
theorem step_call {P : Program} {ops : Array Oper} {o : Oper} {a : Act} {w : World} {K : Act → World → Prop} {Q : Exit → Act → World → Prop} {E : Prop} (hgd : o.guard = none) (f : FuncId) (x : Operand) (ats : Array TypeId)
    (ho : o.op = .call { callee := .value (.func f), args := #[x], argTypes := ats }) (u : Value) (hv : a.eval x = u) (hf : ∀ (xs : Array Value) (w : World), (callFunc f xs).run P w = .ok (.enter f xs) w) {v : Value} {R : World → Prop}
    (hc : Calls P f #[u] w fun e w' => e = .returned v ∧ R w') (h : ∀ w', R w' → K (a.put o.dst v) w') :
    if Region.wanted o (yielded ops a.tmps) = true then Oper.wp P o a w K Q else E := by
  have hw : Region.wanted o (yielded ops a.tmps) = true := by simp [Region.wanted, hgd]
  rw [if_pos hw]
  subst hv
  have hrun : (execOp a.eval o).run P w = .ok (.enter f #[a.eval x]) w := by
    simp [execOp, ho, resolve, invoke, Act.eval, Deferred.ofValue, hf]
  unfold Oper.wp
  rw [hrun]
  exact hc.mono fun e w' ⟨he, hr⟩ => by subst he; exact h w' hr
/-- A call with two arguments as one step of a region that draws its order. -/
theorem step_call2 {P : Program} {ops : Array Oper} {o : Oper} {a : Act} {w : World} {K : Act → World → Prop} {Q : Exit → Act → World → Prop} {E : Prop} (hgd : o.guard = none) (f : FuncId) (x x2 : Operand) (ats : Array TypeId)
    (ho : o.op = .call { callee := .value (.func f), args := #[x, x2], argTypes := ats }) (u u2 : Value) (hv : a.eval x = u) (hv2 : a.eval x2 = u2) (hf : ∀ (xs : Array Value) (w : World), (callFunc f xs).run P w = .ok (.enter f xs) w) {v : Value} {R : World → Prop}
    (hc : Calls P f #[u, u2] w fun e w' => e = .returned v ∧ R w') (h : ∀ w', R w' → K (a.put o.dst v) w') :
    if Region.wanted o (yielded ops a.tmps) = true then Oper.wp P o a w K Q else E := by
  have hw : Region.wanted o (yielded ops a.tmps) = true := by simp [Region.wanted, hgd]
  rw [if_pos hw]
  subst hv hv2
  have hrun : (execOp a.eval o).run P w = .ok (.enter f #[a.eval x, a.eval x2]) w := by
    simp [execOp, ho, resolve, invoke, Act.eval, Deferred.ofValue, hf]
  unfold Oper.wp
  rw [hrun]
  exact hc.mono fun e w' ⟨he, hr⟩ => by subst he; exact h w' hr
end Go.Proofs.Ytmjdfglidfdkaaa
