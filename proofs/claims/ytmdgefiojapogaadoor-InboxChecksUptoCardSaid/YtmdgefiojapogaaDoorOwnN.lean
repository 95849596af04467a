/- A list of things of several cells each that a call has made itself, and what append makes of it. No condition. -/
import Derived.Test.YtmdgefiojapogaaDoorRdN
import Derived.Laws.AppendOwn
import Derived.Laws.OwnMore
import Derived.OwnWalk
import Derived.Laws.MakeOwn
import Derived.Maps.AppendAt
namespace Go.Proofs.YtmdgefiojapogaaDoor
open Go.RowKit
/-- A row of the call's own (its block from B on), of elements of type E, s cells each. -/
def OwnN {α : Type} (E : TypeId) (s : Nat) (f : α → List Value) (w : World) (B : Nat) (v : Value) (l : List α) : Prop := w.ownsRow B E s v l.length (l.flatMap f)
namespace OwnN
variable {α : Type} {E : TypeId} {s : Nat} {f : α → List Value} {w w' : World} {B : Nat} {v : Value} {l : List α}
theorem nil (E : TypeId) (s : Nat) (f : α → List Value) (w : World) (B : Nat) : OwnN E s f w B (.slice none 0 0) [] := World.ownsRow_nil w B _ _
theorem rd (h : OwnN E s f w B v l) : ∃ p cap, v = .slice p l.length cap ∧ RdN s f w p cap l ∧ (∀ x, p = some x → B ≤ x.block ∧ v.ownBlock = some x.block) ∧ cap ≤ maxLen := by
  rcases h.2 with ⟨hv, h0⟩ | ⟨g, cap, cur, hv, hB, hg, hn, hm, hs, ht⟩
  · refine ⟨none, 0, by rw [hv, h0], ⟨by omega, fun hne => absurd (List.eq_nil_of_length_eq_zero h0) hne⟩, (fun x hx => by cases hx), Nat.zero_le _⟩
  · refine ⟨_, cap, hv, RdN.of_blk hg (fun j u hj => ?_) hn, fun x hx => by cases hx; exact ⟨hB, by rw [hv]; rfl⟩, hm⟩
    rw [← ht] at hj
    rw [List.getElem?_take] at hj
    have h1 := hj; simp at h1; simpa using h1.2
theorem alloc (h : OwnN E s f w B v l) (o : Obj) : OwnN E s f (w.alloc o) B v l := World.ownsRow.alloc h o
theorem drew (h : OwnN E s f w B v l) : OwnN E s f w.drew B v l := h
theorem mod {S : List Nat} {a : World} (h : OwnN E s f a B v l) (hm : Mod S a w) (hs : ∀ x ∈ S, v.ownBlock ≠ some x) : OwnN E s f w B v l := by
  refine ⟨h.1, ?_⟩
  rcases h.2 with h0 | ⟨g, cap, cur, hv, hB, hg, hn⟩
  · exact .inl h0
  · refine .inr ⟨g, cap, cur, hv, hB, hm.get hg (fun hx => hs g hx (by rw [hv]; rfl)), hn⟩
theorem mod0 {a : World} (h : OwnN E s f a B v l) (hm : Mod [] a w) : OwnN E s f w B v l := h.mod hm (by simp)
theorem mono {B' : Nat} (h : OwnN E s f w B v l) (hb : B' ≤ B) : OwnN E s f w B' v l := by
  refine ⟨h.1, ?_⟩
  rcases h.2 with h0 | ⟨g, cap, cur, hv, hB, hg⟩
  · exact .inl h0
  · exact .inr ⟨g, cap, cur, hv, by omega, hg⟩
theorem row (h : OwnN E s f w B v l) : ∀ g, v.ownBlock = some g → B ≤ g := fun g hg => (World.ownsRow.lt h g hg).1
theorem lt (h : OwnN E s f w B v l) : ∀ g, v.ownBlock = some g → g < w.heap.size := fun g hg => (World.ownsRow.lt h g hg).2
/-- The block of such a row holds elements of its type. -/
theorem type (h : OwnN E s f w B v l) : ∀ g, v.ownBlock = some g → ∃ C, w.heap[g]? = some (.cells C E (0, 0)) := by
  intro g hg
  rcases h.2 with ⟨rfl, _⟩ | ⟨g', cap, cur, rfl, _, hb, _⟩
  · cases hg
  · injection hg with hg
    simp only at hg
    subst hg
    exact ⟨_, hb⟩
/-- The first k of them. -/
theorem front (h : OwnN E s f w B v l) (hs : ∀ x, (f x).length = s) (k : Nat) (hk : k ≤ l.length) : ∃ p cap, v = .slice p l.length cap ∧ OwnN E s f w B (.slice p k cap) (l.take k) := by
  have hl : (l.take k).length = k := by rw [List.length_take_of_le hk]
  have e : l.flatMap f = (l.take k).flatMap f ++ (l.drop k).flatMap f := by rw [← List.flatMap_append, List.take_append_drop]
  have hfl : ((l.take k).flatMap f).length = k * s := by rw [length_flatMap_const f s hs, hl]
  rcases h.2 with ⟨hv, h0⟩ | ⟨g, cap, cur, hv, hB, hg, hn, hm, hsz, ht⟩
  · have hk0 : k = 0 := by omega
    subst hk0
    exact ⟨none, 0, by rw [hv, h0], by rw [List.take_zero]; exact OwnN.nil _ _ _ _ _⟩
  · refine ⟨_, cap, hv, ?_, .inr ⟨g, cap, cur, by rw [hl], hB, hg, by rw [hl]; omega, hm, hsz, ?_⟩⟩
    · rw [hl, hfl]
    · rw [hl]
      have h2 : cur.toList.take (k * s) = (cur.toList.take (l.length * s)).take (k * s) := by
        rw [List.take_take, Nat.min_eq_left (Nat.mul_le_mul_right s hk)]
      rw [h2, ht, e, List.take_left' hfl]
end OwnN
/-- append(out, src...) onto such a row. -/
theorem wpList_pushN {P : Program} {α : Type} {T E : TypeId} {s : Nat} {f : α → List Value} (z : Value) (nb : Nat) (hT : P.underlying T = some (.slice E)) (hE : (P.info? E).map (fun i => (i.zero, i.size, i.bytes)) = some (some z, s, nb)) (hz : z.cells.size = s) (hs0 : 0 < s) (hfl : ∀ x, (f x).length = s) (hf : ∀ x, ∀ u ∈ f x, u.oneCell' = true)
    {ops : Array Oper} {rest : List Oper} {o : Oper} {a : Act} {Q : Exit → Act → World → Prop} {w : World} (hgd : o.guard = none) (so x : Operand)
    (ho : o.op = .call { callee := .builtin .append, args := #[so, x], argTypes := #[T, T] })
    (B : Nat) (v : Value) (l : List α) (hown : OwnN E s f w B v l) (hs : a.eval so = v) (b o' n c : Nat) (ns : List α) (hx : a.eval x = .slice (some ⟨b, o', none⟩) n c) (hn : n = ns.length)
    (hr : w.rangeAt b o' (ns.flatMap f)) (hm : l.length + ns.length ≤ maxLen) (hlen : (l.length + ns.length) * nb ≤ 140737488355328) (hbase : B ≤ w.heap.size)
    (h : ∀ v' w', OwnN E s f w' B v' (l ++ ns) → w.grownBy w' v.ownBlock → wpList P ops Q rest (a.put o.dst v') w') : wpList P ops Q (o :: rest) a w := by
  obtain ⟨i0, hi, hz0, hz1, hz2⟩ := info_parts hE
  subst hn
  refine wpList_append_own w hgd so x T ho B E i0 z s nb hT hi hz0 hz1 hz2 hz hs0 v l.length (l.flatMap f) hs hown ⟨b, o', none⟩ ns.length c (ns.flatMap f) hx (length_flatMap_const f s hfl ns) ?_ (fun u hu => by obtain ⟨y, _, hy⟩ := List.mem_flatMap.1 hu; exact hf y u hy) hm hlen hbase ?_
  · intro j u hj
    rw [Addr.add_mid]
    exact hr j u hj
  · intro v' w' h1 h2 _
    exact h v' w' (by unfold OwnN; rw [List.flatMap_append, List.length_append]; exact h1) h2
/-- The same as one step of a region that draws its order. -/
theorem step_pushN {P : Program} {α : Type} {T E : TypeId} {s : Nat} {f : α → List Value} (z : Value) (nb : Nat) (hT : P.underlying T = some (.slice E)) (hE : (P.info? E).map (fun i => (i.zero, i.size, i.bytes)) = some (some z, s, nb)) (hz : z.cells.size = s) (hs0 : 0 < s) (hfl : ∀ x, (f x).length = s) (hf : ∀ x, ∀ u ∈ f x, u.oneCell' = true)
    {ops : Array Oper} {o : Oper} {a : Act} {Q : Exit → Act → World → Prop} {w : World} {K : Act → World → Prop} {EE : Prop} (hgd : o.guard = none) (so x : Operand)
    (ho : o.op = .call { callee := .builtin .append, args := #[so, x], argTypes := #[T, T] })
    (B : Nat) (v : Value) (l : List α) (hown : OwnN E s f w B v l) (hs : a.eval so = v) (b o' n c : Nat) (ns : List α) (hx : a.eval x = .slice (some ⟨b, o', none⟩) n c) (hn : n = ns.length)
    (hr : w.rangeAt b o' (ns.flatMap f)) (hm : l.length + ns.length ≤ maxLen) (hlen : (l.length + ns.length) * nb ≤ 140737488355328) (hbase : B ≤ w.heap.size)
    (h : ∀ v' w', OwnN E s f w' B v' (l ++ ns) → w.grownBy w' v.ownBlock → (v'.ownBlock = v.ownBlock ∨ v'.ownBlock = some w.heap.size) → K (a.put o.dst v') w') : if Region.wanted o (yielded ops a.tmps) = true then Oper.wp P o a w K Q else EE := by
  have hw : Region.wanted o (yielded ops a.tmps) = true := by simp [Region.wanted, hgd]
  rw [if_pos hw]
  obtain ⟨i0, hi, hz0, hz1, hz2⟩ := info_parts hE
  subst hn
  obtain ⟨v', w', hrun, h2, h3, _, h5⟩ := run_append_own_at (P := P) w B T o.type E i0 z s nb hT hi hz0 hz1 hz2 hz hs0 v l.length (l.flatMap f) hown ⟨b, o', none⟩ ns.length c (ns.flatMap f) (length_flatMap_const f s hfl ns) (fun j u hj => by rw [Addr.add_mid]; exact hr j u hj) (fun u hu => by obtain ⟨y, _, hy⟩ := List.mem_flatMap.1 hu; exact hf y u hy) hm hlen hbase
  unfold Oper.wp execOp
  simp only [ho, resolve, invoke, builtin, Sem.run_bind, Sem.run_pure, Result.andThen_ok, List.map_toArray, List.map_cons, List.map_nil, hs, hx, hrun]
  exact h v' w' (by unfold OwnN; rw [List.flatMap_append, List.length_append]; exact h2) h3 h5
/-- append(out, nothing...). -/
theorem wpList_pushN0 {P : Program} {α : Type} {T E : TypeId} {s : Nat} {f : α → List Value} (z : Value) (nb : Nat) (hT : P.underlying T = some (.slice E)) (hE : (P.info? E).map (fun i => (i.zero, i.size, i.bytes)) = some (some z, s, nb))
    {ops : Array Oper} {rest : List Oper} {o : Oper} {a : Act} {Q : Exit → Act → World → Prop} {w : World} (hgd : o.guard = none) (so x : Operand)
    (ho : o.op = .call { callee := .builtin .append, args := #[so, x], argTypes := #[T, T] })
    (B : Nat) (v : Value) (l : List α) (hown : OwnN E s f w B v l) (hs : a.eval so = v) (q : Option Addr) (c : Nat) (hx : a.eval x = .slice q 0 c)
    (h : wpList P ops Q rest (a.put o.dst v) w) : wpList P ops Q (o :: rest) a w := by
  obtain ⟨i0, hi, hz0, hz1, hz2⟩ := info_parts hE
  have hl : ∀ (x : Addr), (loadCells x 0).run P w = .ok #[] w := fun x => by simpa using run_loadCells_list (P := P) w x [] (by simp)
  have hrun : (Builtin.append_ #[T, T] o.type #[v, .slice q 0 c]).run P w = .ok v w := by
    rcases hown.2 with ⟨rfl, h0⟩ | ⟨g, cap, cur, rfl, _, _, hnc, _⟩
    · cases q <;> simp [Builtin.append_, run_underlying hT, sizeOf, typeInfo, hi, Builtin.lenOf, Builtin.firstCells, hl]
    · cases q <;> simp [Builtin.append_, run_underlying hT, sizeOf, typeInfo, hi, Builtin.lenOf, Builtin.firstCells, hnc, storeCells, hl]
  refine wpList_plain hgd fun K hK => ?_
  unfold Oper.wp
  simp [execOp, ho, resolve, invoke, builtin, hs, hx, hrun, Result.andThen]
  exact hK _ _ (by simpa using h)
end Go.Proofs.YtmdgefiojapogaaDoor
