/- append(out, list...), wherever the list lies, the empty one too. No condition. -/
import Derived.Test.YtmdgefiojapogaaDoorOwn
import Derived.Laws.IdiomCopy
namespace Go.Proofs.YtmdgefiojapogaaDoor
open Go.RowKit
theorem run_append_zero {w : World} {B c : Nat} {v : Value} {l : List UInt8} {q : Option Addr} (ty : TypeId) (hown : Own w B v l) :
    (Builtin.append_ #[27, 27] ty #[v, .slice q 0 c]).run Tryd.prog w = .ok v w := by
  obtain ⟨i0, hi, hz0, hz1, hz2⟩ := info_parts infoByte
  have ht := Tryd.underlying27
  have hl : ∀ (x : Addr), (loadCells x 0).run Tryd.prog w = .ok #[] w := fun x => by simpa using run_loadCells_list (P := Tryd.prog) w x [] (by simp)
  rcases hown.2 with ⟨rfl, h0⟩ | ⟨g, cap, cur, rfl, _, _, hnc, _⟩
  · cases q <;> simp [Builtin.append_, run_underlying ht, sizeOf, typeInfo, hi, Builtin.lenOf, Builtin.firstCells, hl]
  · cases q <;> simp [Builtin.append_, run_underlying ht, sizeOf, typeInfo, hi, Builtin.lenOf, Builtin.firstCells, hnc, storeCells, hl]
/-- append(out, list...) onto a row of the call's own. -/
theorem wpList_pushAll {ops : Array Oper} {rest : List Oper} {o : Oper} {a : Act} {Q : Exit → Act → World → Prop} {w : World} (hgd : o.guard = none) (s x : Operand)
    (ho : o.op = .call { callee := .builtin .append, args := #[s, x], argTypes := #[27, 27] })
    (B : Nat) (v : Value) (l : List UInt8) (hown : Own w B v l) (hs : a.eval s = v) (p : Option Addr) (n c : Nat) (ns : List UInt8) (hx : a.eval x = .slice p n c) (hn : n = ns.length)
    (hr : Rd V8 w p c ns) (hlen : l.length + ns.length ≤ 140737488355328) (hbase : B ≤ w.heap.size)
    (h : ∀ v' w', Own w' B v' (l ++ ns) → w.grownBy w' v.ownBlock → wpList Tryd.prog ops Q rest (a.put o.dst v') w') : wpList Tryd.prog ops Q (o :: rest) a w := by
  by_cases h0 : ns = []
  · subst h0
    subst hn
    refine wpList_plain hgd fun K hK => ?_
    have hrun := run_append_zero (c := c) (q := p) o.type hown
    have hx' : a.eval x = .slice p 0 c := hx
    unfold Oper.wp
    simp [execOp, ho, resolve, invoke, builtin, hs, hx', hrun, Result.andThen]
    have h' := h v w (by rw [List.append_nil]; exact hown) ⟨rfl, rfl, rfl, Nat.le_refl _, fun _ _ _ => rfl⟩
    exact hK _ _ (by simpa using h')
  · obtain ⟨b, o', rfl, hrr⟩ := hr.at_ h0
    exact wpList_push hgd s x ho B v l hown hs b o' n c ns hx hn hrr hlen hbase h
end Go.Proofs.YtmdgefiojapogaaDoor
