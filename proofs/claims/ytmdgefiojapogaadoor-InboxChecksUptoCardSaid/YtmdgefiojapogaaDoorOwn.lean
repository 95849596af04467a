/- A list of bytes that a call has made itself, and what append makes of it. No condition. -/
import Derived.Test.YtmdgefiojapogaaDoorSl
import Derived.Test.YtmdgefiojapogaaDoorRows
import Derived.Laws.AppendOwn
import Derived.Laws.OwnMore
import Derived.OwnWalk
namespace Go.Proofs.YtmdgefiojapogaaDoor
open Go.RowKit
/-- A row of the call's own (its block from B on), of bytes. -/
def Own (w : World) (B : Nat) (v : Value) (l : List UInt8) : Prop := w.ownsRow B 5 1 v l.length (l.map V8)
theorem infoByte : (Tryd.prog.info? 5).map (fun i => (i.zero, i.size, i.bytes)) = some (some (.int .u8 0), 1, 1) := by kernel_rfl
namespace Own
variable {w w' : World} {B : Nat} {v : Value} {l : List UInt8}
theorem nil (w : World) (B : Nat) : Own w B (.slice none 0 0) [] := World.ownsRow_nil w B _ _
theorem rd (h : Own w B v l) : ∃ p cap, v = .slice p l.length cap ∧ Rd V8 w p cap l ∧ (∀ x, p = some x → B ≤ x.block) := by
  rcases h.2 with ⟨hv, h0⟩ | ⟨g, cap, cur, hv, hB, hg, hn, hm, hs, ht⟩
  · refine ⟨none, 0, by rw [hv, h0], ⟨by omega, fun hne => absurd (List.eq_nil_of_length_eq_zero h0) hne⟩, fun x hx => by cases hx⟩
  · refine ⟨_, cap, hv, Rd.of_blk hg (fun j u hj => ?_) hn, fun x hx => by cases hx; exact hB⟩
    have hj' : j < l.length := by
      have := (List.getElem?_eq_some_iff.1 hj).1
      simpa using this
    rw [← ht] at hj
    rw [List.getElem?_take] at hj
    have h1 := hj; simp at h1; simpa using h1.2
theorem alloc (h : Own w B v l) (o : Obj) : Own (w.alloc o) B v l := World.ownsRow.alloc h o
theorem drew (h : Own w B v l) : Own w.drew B v l := h
theorem mod {S : List Nat} {a : World} (h : Own a B v l) (hm : Mod S a w) (hs : ∀ x ∈ S, v.ownBlock ≠ some x) : Own w B v l := by
  refine ⟨h.1, ?_⟩
  rcases h.2 with h0 | ⟨g, cap, cur, hv, hB, hg, hn⟩
  · exact .inl h0
  · refine .inr ⟨g, cap, cur, hv, hB, hm.get hg (fun hx => hs g hx (by rw [hv]; rfl)), hn⟩
theorem mod0 {a : World} (h : Own a B v l) (hm : Mod [] a w) : Own w B v l := h.mod hm (by simp)
theorem row (h : Own w B v l) : ∀ g, v.ownBlock = some g → B ≤ g := fun g hg => (World.ownsRow.lt h g hg).1
theorem mono {B' : Nat} (h : Own w B v l) (hb : B' ≤ B) : Own w B' v l := by
  refine ⟨h.1, ?_⟩
  rcases h.2 with h0 | ⟨g, cap, cur, hv, hB, hg⟩
  · exact .inl h0
  · exact .inr ⟨g, cap, cur, hv, by omega, hg⟩
end Own
/-- append(out, src...) onto such a row, where the source's address is known. -/
theorem wpList_push {ops : Array Oper} {rest : List Oper} {o : Oper} {a : Act} {Q : Exit → Act → World → Prop} {w : World} (hgd : o.guard = none) (s x : Operand)
    (ho : o.op = .call { callee := .builtin .append, args := #[s, x], argTypes := #[27, 27] })
    (B : Nat) (v : Value) (l : List UInt8) (hown : Own w B v l) (hs : a.eval s = v) (b o' n c : Nat) (ns : List UInt8) (hx : a.eval x = .slice (some ⟨b, o', none⟩) n c) (hn : n = ns.length)
    (hr : w.rangeAt b o' (ns.map V8)) (hlen : l.length + ns.length ≤ 140737488355328) (hbase : B ≤ w.heap.size)
    (h : ∀ v' w', Own w' B v' (l ++ ns) → w.grownBy w' v.ownBlock → wpList Tryd.prog ops Q rest (a.put o.dst v') w') : wpList Tryd.prog ops Q (o :: rest) a w := by
  obtain ⟨i0, hi, hz0, hz1, hz2⟩ := info_parts infoByte
  subst hn
  refine wpList_append_own w hgd s x 27 ho B 5 i0 (.int .u8 0) 1 1 Tryd.underlying27 hi hz0 hz1 hz2 rfl (by decide) v l.length (l.map V8) hs hown ⟨b, o', none⟩ ns.length c (ns.map V8) hx (by simp) ?_ (by simp [one8]) (by unfold maxLen; omega) (by omega) hbase ?_
  · intro j u hj
    rw [Addr.add_mid]
    exact hr j u hj
  · intro v' w' h1 h2 _
    exact h v' w' (by unfold Own; simpa using h1) h2
/-- The temporary list of one byte that append takes in. -/
theorem range_one (w : World) (x : UInt8) (t : TypeId) (b : Nat) (hb : b = w.heap.size) : (w.alloc (.cells #[V8 x] t)).rangeAt b 0 ([x].map V8) :=
  range_blk (hp_new w (.cells #[V8 x] t) b hb) 0 _ (fun j v hv => by
    match j, hv with
    | 0, hv => simpa using hv)
end Go.Proofs.YtmdgefiojapogaaDoor
