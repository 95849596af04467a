/- A list of things of one cell each that a call has made itself, and what append makes of it. No condition. -/
import Derived.Test.YtbbobpjcbnfpfaaDoorOwn
import Derived.Laws.MakeOwn
namespace Go.Proofs.YtbbobpjcbnfpfaaDoor
open Go.RowKit
/-- A row of the call's own (its block from B on), of elements of type E, one cell each. -/
def OwnE {α : Type} (E : TypeId) (f : α → Value) (w : World) (B : Nat) (v : Value) (l : List α) : Prop := w.ownsRow B E 1 v l.length (l.map f)
namespace OwnE
variable {α : Type} {E : TypeId} {f : α → Value} {w w' : World} {B : Nat} {v : Value} {l : List α}
theorem nil (E : TypeId) (f : α → Value) (w : World) (B : Nat) : OwnE E f w B (.slice none 0 0) [] := World.ownsRow_nil w B _ _
theorem rd (h : OwnE E f w B v l) : ∃ p cap, v = .slice p l.length cap ∧ Rd f w p cap l ∧ (∀ x, p = some x → B ≤ x.block) := by
  rcases h.2 with ⟨hv, h0⟩ | ⟨g, cap, cur, hv, hB, hg, hn, hm, hs, ht⟩
  · refine ⟨none, 0, by rw [hv, h0], ⟨by omega, fun hne => absurd (List.eq_nil_of_length_eq_zero h0) hne⟩, fun x hx => by cases hx⟩
  · refine ⟨_, cap, hv, Rd.of_blk hg (fun j u hj => ?_) hn, fun x hx => by cases hx; exact hB⟩
    rw [← ht] at hj
    rw [List.getElem?_take] at hj
    have h1 := hj; simp at h1; simpa using h1.2
theorem alloc (h : OwnE E f w B v l) (o : Obj) : OwnE E f (w.alloc o) B v l := World.ownsRow.alloc h o
theorem drew (h : OwnE E f w B v l) : OwnE E f w.drew B v l := h
theorem mod {S : List Nat} {a : World} (h : OwnE E f a B v l) (hm : Mod S a w) (hs : ∀ x ∈ S, v.ownBlock ≠ some x) : OwnE E f w B v l := by
  refine ⟨h.1, ?_⟩
  rcases h.2 with h0 | ⟨g, cap, cur, hv, hB, hg, hn⟩
  · exact .inl h0
  · refine .inr ⟨g, cap, cur, hv, hB, hm.get hg (fun hx => hs g hx (by rw [hv]; rfl)), hn⟩
theorem mod0 {a : World} (h : OwnE E f a B v l) (hm : Mod [] a w) : OwnE E f w B v l := h.mod hm (by simp)
theorem row (h : OwnE E f w B v l) : ∀ g, v.ownBlock = some g → B ≤ g := fun g hg => (World.ownsRow.lt h g hg).1
theorem lt (h : OwnE E f w B v l) : ∀ g, v.ownBlock = some g → g < w.heap.size := fun g hg => (World.ownsRow.lt h g hg).2
end OwnE
/-- append(out, src...) onto such a row, where the source's address is known. -/
theorem wpList_pushE {P : Program} {α : Type} {T E : TypeId} {f : α → Value} (z : Value) (nb : Nat) (hT : P.underlying T = some (.slice E)) (hE : (P.info? E).map (fun i => (i.zero, i.size, i.bytes)) = some (some z, 1, nb)) (hz : z.cells.size = 1) (hf : ∀ x, (f x).oneCell' = true)
    {ops : Array Oper} {rest : List Oper} {o : Oper} {a : Act} {Q : Exit → Act → World → Prop} {w : World} (hgd : o.guard = none) (s x : Operand)
    (ho : o.op = .call { callee := .builtin .append, args := #[s, x], argTypes := #[T, T] })
    (B : Nat) (v : Value) (l : List α) (hown : OwnE E f w B v l) (hs : a.eval s = v) (b o' n c : Nat) (ns : List α) (hx : a.eval x = .slice (some ⟨b, o', none⟩) n c) (hn : n = ns.length)
    (hr : w.rangeAt b o' (ns.map f)) (hm : l.length + ns.length ≤ maxLen) (hlen : (l.length + ns.length) * nb ≤ 140737488355328) (hbase : B ≤ w.heap.size)
    (h : ∀ v' w', OwnE E f w' B v' (l ++ ns) → w.grownBy w' v.ownBlock → wpList P ops Q rest (a.put o.dst v') w') : wpList P ops Q (o :: rest) a w := by
  obtain ⟨i0, hi, hz0, hz1, hz2⟩ := info_parts hE
  subst hn
  refine wpList_append_own w hgd s x T ho B E i0 z 1 nb hT hi hz0 hz1 hz2 hz (by decide) v l.length (l.map f) hs hown ⟨b, o', none⟩ ns.length c (ns.map f) hx (by simp) ?_ (fun u hu => by obtain ⟨y, _, rfl⟩ := List.mem_map.1 hu; exact hf y) hm hlen hbase ?_
  · intro j u hj
    rw [Addr.add_mid]
    exact hr j u hj
  · intro v' w' h1 h2 _
    exact h v' w' (by unfold OwnE; simpa using h1) h2
theorem range_oneE {α : Type} (f : α → Value) (w : World) (x : α) (t : TypeId) (b : Nat) (hb : b = w.heap.size) : (w.alloc (.cells #[f x] t)).rangeAt b 0 ([x].map f) :=
  range_blk (hp_new w (.cells #[f x] t) b hb) 0 _ (fun j v hv => by
    match j, hv with
    | 0, hv => simpa using hv)
/-- A part of a list is a list. -/
theorem getElem?_of_blk {w : World} {g : Nat} {C : Array Value} {t : TypeId} {fr : Nat × Nat} (h : w.heap[g]? = some (.cells C t fr)) (j : Nat) (v : Value) (hv : C[j]? = some v) : w.cell? ⟨g, j, none⟩ = some v := by rw [cell_blk h]; exact hv
end Go.Proofs.YtbbobpjcbnfpfaaDoor
