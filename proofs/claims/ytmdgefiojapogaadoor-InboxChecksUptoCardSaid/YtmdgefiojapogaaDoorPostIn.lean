/- Slices of structs, of lists that came in. No condition. -/
import Derived.Test.YtmdgefiojapogaaDoorPost
import Derived.Test.YtmdgefiojapogaaDoorRdN
namespace Go.Proofs.YtmdgefiojapogaaDoor
open Go.ChangeShapes Go.WideShapes Go.ChangeAt Go.RowKit
theorem bulk_one {H : Type} (d : DataW H) : 1 ≤ Rows.uptoBulk d := by
  cases d with
  | lit l => cases l <;> simp [Rows.uptoBulk]
  | nil => simp [Rows.uptoBulk]
  | ptr d => simp [Rows.uptoBulk]
  | slice elems spare => simp [Rows.uptoBulk]
  | agg parts => simp [Rows.uptoBulk]
  | iface t d => simp [Rows.uptoBulk]
  | map entries => simp [Rows.uptoBulk]
  | held h => simp [Rows.uptoBulk]
theorem bulk_len {H : Type} (l : List (DataW H)) : l.length ≤ Rows.uptoBulkAll l := by
  induction l with
  | nil => simp [Rows.uptoBulkAll]
  | cons x r ih => have := bulk_one x; simp only [Rows.uptoBulkAll, List.length_cons]; omega
theorem sum_bulk {α H : Type} (f : Nat → α) (size : α → Nat) (D : Nat → DataW H) : ∀ l : List Nat, (∀ i ∈ l, size (f i) ≤ Rows.uptoBulk (D i)) → ((l.map f).map size).sum ≤ Rows.uptoBulkAll (l.map D)
  | [], _ => by simp
  | i :: l, h => by
    have h1 := h i (by simp)
    have h2 := sum_bulk f size D l (fun j hj => h j (by simp [hj]))
    simp only [List.map_cons, Rows.uptoBulkAll, List.sum_cons] at h2 ⊢
    omega
set_option maxRecDepth 100000 in
/-- A slice of structs that came in. -/
theorem structs_in {α : Type} [Inhabited α] {H : Type} {enc : TypeId × Value → H} {W : World} {t e : TypeId} (s : Nat) (f : α → List Value) (Q : α → Prop) (size : α → Nat) (ht : Tryd.prog.underlying t = some (.slice e)) (hs : Tryd.prog.cellsOf e = s) (hpos : 0 < s) (hfl : ∀ x, (f x).length = s)
    (hop : ∀ (n : Nat) (cs : List Value) (d : DataW H) (p : List MemPlace), cs.length = s → DataW.trod enc Tryd.prog W 0 (fun _ => true) true n e cs = some (d, p) → ∃ x, cs = f x ∧ Q x ∧ size x ≤ Rows.uptoBulk d)
    {a0 : Option Addr} {len cap : Nat} {d : DataW H} {p : List MemPlace} (h : DataW.Trod enc Tryd.prog W 0 (fun _ => true) true t (.slice a0 len cap) d p) :
    ∃ xs : List α, xs.length = len ∧ RdN s f W a0 cap xs ∧ (∀ x ∈ xs, Q x) ∧ (xs.map size).sum ≤ Rows.uptoBulk d ∧ len ≤ Rows.uptoBulk d := by
  obtain ⟨fuel, hf⟩ := h
  rcases Go.Deep.open_slice ht hf with ⟨hcs, hx⟩ | ⟨a, len', cap', m, n, D, Pl, hcs, _, hl, hmx, hm, hx, hcell⟩
  · simp [Value.cells] at hcs
    obtain ⟨rfl, rfl, rfl⟩ := hcs
    exact ⟨[], rfl, RdN.nil _ _ _ _ _, by simp, by simp, by omega⟩
  · simp [Value.cells] at hcs
    obtain ⟨rfl, rfl, rfl⟩ := hcs
    simp only [Prod.mk.injEq] at hx
    obtain ⟨rfl, _⟩ := hx
    simp only [if_true] at hm
    subst hm
    rw [hs] at hcell
    have hex : ∀ i, i < len → ∃ x : α, (∀ j v, (f x)[j]? = some v → W.cell? (a.add (i * s + j)) = some v) ∧ Q x ∧ size x ≤ Rows.uptoBulk (D i) := by
      intro i hi
      obtain ⟨cs, h1, h2⟩ := hcell i (by omega)
      obtain ⟨_, h3, h4⟩ := World.cells?_some h1
      obtain ⟨x, rfl, hq, hsz⟩ := hop n cs _ _ h3 h2
      refine ⟨x, fun j v hj => ?_, hq, hsz⟩
      have hjl : j < s := by rw [← h3]; exact (List.getElem?_eq_some_iff.1 hj).1
      have := h4 j hjl
      rw [hj, Go.Deep.add_add] at this
      exact this
    obtain ⟨g, hgz⟩ := Go.Deep.choose_lt hex
    refine ⟨(List.range len).map g, by simp, ⟨by simpa using hl, fun hne => ?_⟩, ?_, ?_, ?_⟩
    · have hpos' : 0 < len := by
        rcases Nat.eq_zero_or_pos len with h0 | h0
        · subst h0; exact absurd rfl hne
        · exact h0
      obtain ⟨b, o, spot⟩ := a
      have hspot : spot = none := by
        obtain ⟨v0, hv0⟩ : ∃ v, (f (g 0))[0]? = some v := ⟨_, List.getElem?_eq_getElem (by rw [hfl]; exact hpos)⟩
        have hh := (hgz 0 hpos').1 0 v0 hv0
        simpa [Addr.add] using World.cell?_spot hh
      subst hspot
      refine ⟨b, o, rfl, ?_⟩
      have key : ∀ (l : List Nat) (k : Nat), (∀ i, i < l.length → l[i]? = some (k + i)) → k + l.length ≤ len → ∀ j v, ((l.map g).flatMap f)[j]? = some v → W.cell? ⟨b, o + (k * s + j), none⟩ = some v := by
        intro l
        induction l with
        | nil => intro k _ _ j v hv; simp at hv
        | cons y l ih =>
          intro k hk hkl j v hv
          have hy : y = k := by have := hk 0 (by simp); simpa using this
          subst hy
          rw [List.map_cons, List.flatMap_cons] at hv
          by_cases hj : j < s
          · rw [List.getElem?_append_left (by rw [hfl]; exact hj)] at hv
            have := (hgz y (by simp at hkl; omega)).1 j v hv
            rw [Addr.add_mid] at this
            exact this
          · rw [List.getElem?_append_right (by rw [hfl]; omega), hfl] at hv
            have := ih (y + 1) (fun i hi => by have := hk (i + 1) (by simp; omega); simp at this; rw [this]; congr 1; omega) (by simp at hkl; omega) (j - s) v hv
            rw [show y * s + j = (y + 1) * s + (j - s) by rw [Nat.succ_mul]; omega]
            exact this
      intro j v hj
      have := key (List.range len) 0 (fun i hi => by simp at hi; simp [hi]) (by simp) j v hj
      simpa using this
    · intro x hx
      obtain ⟨i, hi, rfl⟩ := List.mem_map.1 hx
      exact (hgz i (by simpa using hi)).2.1
    · have := sum_bulk g size D (List.range len) (fun i hi => (hgz i (by simpa using hi)).2.2)
      simp only [Rows.uptoBulk]
      omega
    · simp only [Rows.uptoBulk]
      have h1 := bulk_len ((List.range len).map D)
      simp only [List.length_map, List.length_range] at h1
      omega
theorem cut_at (cs : List Value) (a k b : Nat) (h : b = a + k) : cs.drop a = (cs.drop a).take k ++ cs.drop b := by
  subst h
  rw [← List.drop_drop, List.take_append_drop]
/-- A cell that is read as a slice is one. -/
theorem slice_cell {H : Type} {enc : TypeId × Value → H} {W : World} {n : Nat} {t e : TypeId} {cs : List Value} {x : DataW H × List MemPlace} (ht : Tryd.prog.underlying t = some (.slice e)) (h : DataW.trod enc Tryd.prog W 0 (fun _ => true) true n t cs = some x) :
    ∃ a l c, cs = [.slice a l c] := by
  rcases Go.Deep.open_slice ht h with ⟨hcs, hx⟩ | ⟨a, len', cap', m, n, D, Pl, hcs, _⟩
  · exact ⟨_, _, _, hcs⟩
  · exact ⟨_, _, _, hcs⟩
end Go.Proofs.YtmdgefiojapogaaDoor
