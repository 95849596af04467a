/- A list of things of several cells each, wherever it lies. No condition. -/
import Derived.Test.YtmdgefiojapogaaDoorSl
namespace Go.Proofs.YtmdgefiojapogaaDoor
open Go.RowKit
theorem flatMap_get {α : Type} (f : α → List Value) (s : Nat) (hs : ∀ x, (f x).length = s) : ∀ (d : List α) (i : Nat) (x : α) (j : Nat) (v : Value), d[i]? = some x → (f x)[j]? = some v → (d.flatMap f)[i * s + j]? = some v
  | [], i, x, j, v, h, _ => by simp at h
  | y :: d, 0, x, j, v, h, hv => by
    simp only [List.getElem?_cons_zero, Option.some.injEq] at h
    subst h
    rw [List.flatMap_cons, Nat.zero_mul, Nat.zero_add, List.getElem?_append_left (List.getElem?_eq_some_iff.1 hv).1]
    exact hv
  | y :: d, i + 1, x, j, v, h, hv => by
    rw [List.flatMap_cons, List.getElem?_append_right (by rw [hs]; have : (i + 1) * s = i * s + s := Nat.succ_mul i s; omega), hs, show (i + 1) * s + j - s = i * s + j by rw [Nat.succ_mul]; omega]
    exact flatMap_get f s hs d i x j v (by simpa using h) hv
theorem length_flatMap_const {α : Type} (f : α → List Value) (s : Nat) (hs : ∀ x, (f x).length = s) (d : List α) : (d.flatMap f).length = d.length * s := by
  induction d with
  | nil => simp
  | cons y d ih => rw [List.flatMap_cons, List.length_append, hs, ih, List.length_cons, Nat.succ_mul]; omega
/-- Behind p lie the elements d, s cells each. -/
structure RdN {α : Type} (s : Nat) (f : α → List Value) (w : World) (p : Option Addr) (cap : Nat) (d : List α) : Prop where
  le : d.length ≤ cap
  at_ : d ≠ [] → ∃ b o, p = some ⟨b, o, none⟩ ∧ w.rangeAt b o (d.flatMap f)
namespace RdN
variable {α : Type} {s : Nat} {f : α → List Value} {a w : World} {p : Option Addr} {cap : Nat} {d : List α} {S : List Nat}
theorem mod (h : RdN s f a p cap d) (hm : Mod S a w) (ho : d ≠ [] → Off p S) : RdN s f w p cap d :=
  ⟨h.le, fun hd => let ⟨b, o, hp, hr⟩ := h.at_ hd; ⟨b, o, hp, range_mod hm hr (ho hd _ hp)⟩⟩
theorem mod0 (h : RdN s f a p cap d) (hm : Mod [] a w) : RdN s f w p cap d := h.mod hm (fun _ => Off.nil p)
theorem nil (s : Nat) (f : α → List Value) (w : World) (p : Option Addr) (cap : Nat) : RdN s f w p cap [] := ⟨Nat.zero_le _, fun h => absurd rfl h⟩
/-- The cells of the element at an index. -/
theorem elem (h : RdN s f w p cap d) (hs : ∀ x, (f x).length = s) (i : Nat) (x : α) (hi : d[i]? = some x) : ∃ b o, p = some ⟨b, o, none⟩ ∧ w.rangeAt b (o + i * s) (f x) := by
  obtain ⟨b, o, hp, hr⟩ := h.at_ (by rintro rfl; simp at hi)
  refine ⟨b, o, hp, fun j v hv => ?_⟩
  rw [Nat.add_assoc]
  exact hr _ v (flatMap_get f s hs d i x j v hi hv)
theorem of_blk {C : Array Value} {t : TypeId} {fr : Nat × Nat} {b o : Nat} (hb : w.heap[b]? = some (.cells C t fr)) (hc : ∀ j v, (d.flatMap f)[j]? = some v → C[o + j]? = some v) (hl : d.length ≤ cap) : RdN s f w (some ⟨b, o, none⟩) cap d :=
  ⟨hl, fun _ => ⟨b, o, rfl, range_blk hb o _ hc⟩⟩
theorem take (h : RdN s f w p cap d) (k : Nat) : RdN s f w p cap (d.take k) := by
  refine ⟨by have := h.le; simp; omega, fun hd => ?_⟩
  obtain ⟨b, o, hp, hr⟩ := h.at_ (by rintro rfl; simp at hd)
  refine ⟨b, o, hp, fun j v hv => hr j v ?_⟩
  have e : d.flatMap f = (d.take k).flatMap f ++ (d.drop k).flatMap f := by rw [← List.flatMap_append, List.take_append_drop]
  rw [e, List.getElem?_append_left (List.getElem?_eq_some_iff.1 hv).1]
  exact hv
theorem drop (h : RdN s f w p cap d) (hs : ∀ x, (f x).length = s) (k : Nat) (hk : k ≤ d.length) : RdN s f w (slp p k cap s) (cap - k) (d.drop k) := by
  refine ⟨by have := h.le; simp; omega, fun hd => ?_⟩
  have hlt : k < d.length := by
    rcases Nat.lt_or_ge k d.length with h' | h'
    · exact h'
    · exact absurd (List.drop_eq_nil_of_le h') hd
  obtain ⟨b, o, rfl, hr⟩ := h.at_ (by rintro rfl; simp at hlt)
  refine ⟨b, o + k * s, slp_some b o k cap s (by have := h.le; omega), fun j v hv => ?_⟩
  have e : d.flatMap f = (d.take k).flatMap f ++ (d.drop k).flatMap f := by rw [← List.flatMap_append, List.take_append_drop]
  have hl : ((d.take k).flatMap f).length = k * s := by rw [length_flatMap_const f s hs, List.length_take_of_le hk]
  rw [Nat.add_assoc]
  refine hr _ v ?_
  rw [e, List.getElem?_append_right (by omega), hl, Nat.add_sub_cancel_left]
  exact hv
end RdN
/-- One cell out of a range. -/
theorem range_cell {w : World} {b o : Nat} {cs : List Value} (h : w.rangeAt b o cs) (j : Nat) (v : Value) (hv : cs[j]? = some v) : w.cell? ⟨b, o + j, none⟩ = some v := h j v hv
end Go.Proofs.YtmdgefiojapogaaDoor
