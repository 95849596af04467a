/- A script that came in: steps, a commit, a window. No condition. -/
import Derived.Test.YtmjdfglidfdkaaaLwClose
import Derived.Test.YtmjdfglidfdkaaaRdN
namespace Go.Proofs.Ytmjdfglidfdkaaa
open Go.ChangeShapes Go.WideShapes Go.ChangeAt Go.RowKit
theorem bulk_one {H : Type} (d : DataW H) : 1 ≤ Rows.uptoBulk d := by
  cases d with
  | lit l => cases l <;> simp [Rows.uptoBulk]
  | nil => simp [Rows.uptoBulk]
  | ptr d => simp [Rows.uptoBulk]
  | slice elems spare => simp [Rows.uptoBulk]
  | agg parts => simp [Rows.uptoBulk]
  | iface t d => simp [Rows.uptoBulk]
  | map entries => simp [Rows.uptoBulk]
  | held h => simp [Rows.uptoBulk]
theorem bulk_len {H : Type} (l : List (DataW H)) : l.length ≤ Rows.uptoBulkAll l := by
  induction l with
  | nil => simp [Rows.uptoBulkAll]
  | cons x r ih => have := bulk_one x; simp only [Rows.uptoBulkAll, List.length_cons]; omega
theorem sum_bulk {α H : Type} (f : Nat → α) (size : α → Nat) (D : Nat → DataW H) : ∀ l : List Nat, (∀ i ∈ l, size (f i) ≤ Rows.uptoBulk (D i)) → ((l.map f).map size).sum ≤ Rows.uptoBulkAll (l.map D)
  | [], _ => by simp
  | i :: l, h => by
    have h1 := h i (by simp)
    have h2 := sum_bulk f size D l (fun j hj => h j (by simp [hj]))
    simp only [List.map_cons, Rows.uptoBulkAll, List.sum_cons] at h2 ⊢
    omega
set_option maxRecDepth 100000 in
/-- A slice of structs that came in. -/
theorem structs_in {α : Type} [Inhabited α] {H : Type} {enc : TypeId × Value → H} {W : World} {t e : TypeId} (s : Nat) (f : α → List Value) (Q : α → Prop) (size : α → Nat) (ht : Try.prog.underlying t = some (.slice e)) (hs : Try.prog.cellsOf e = s) (hpos : 0 < s) (hfl : ∀ x, (f x).length = s)
    (hop : ∀ (n : Nat) (cs : List Value) (d : DataW H) (p : List MemPlace), cs.length = s → DataW.trod enc Try.prog W 0 (fun _ => true) true n e cs = some (d, p) → ∃ x, cs = f x ∧ Q x ∧ size x ≤ Rows.uptoBulk d)
    {a0 : Option Addr} {len cap : Nat} {d : DataW H} {p : List MemPlace} (h : DataW.Trod enc Try.prog W 0 (fun _ => true) true t (.slice a0 len cap) d p) :
    ∃ xs : List α, xs.length = len ∧ RdN s f W a0 cap xs ∧ (∀ x ∈ xs, Q x) ∧ (xs.map size).sum ≤ Rows.uptoBulk d ∧ len ≤ Rows.uptoBulk d := by
  obtain ⟨fuel, hf⟩ := h
  rcases Go.Deep.open_slice ht hf with ⟨hcs, hx⟩ | ⟨a, len', cap', m, n, D, Pl, hcs, _, hl, hmx, hm, hx, hcell⟩
  · simp [Value.cells] at hcs
    obtain ⟨rfl, rfl, rfl⟩ := hcs
    exact ⟨[], rfl, RdN.nil _ _ _ _ _, by simp, by simp, by omega⟩
  · simp [Value.cells] at hcs
    obtain ⟨rfl, rfl, rfl⟩ := hcs
    simp only [Prod.mk.injEq] at hx
    obtain ⟨rfl, _⟩ := hx
    simp only [if_true] at hm
    subst hm
    rw [hs] at hcell
    have hex : ∀ i, i < len → ∃ x : α, (∀ j v, (f x)[j]? = some v → W.cell? (a.add (i * s + j)) = some v) ∧ Q x ∧ size x ≤ Rows.uptoBulk (D i) := by
      intro i hi
      obtain ⟨cs, h1, h2⟩ := hcell i (by omega)
      obtain ⟨_, h3, h4⟩ := World.cells?_some h1
      obtain ⟨x, rfl, hq, hsz⟩ := hop n cs _ _ h3 h2
      refine ⟨x, fun j v hj => ?_, hq, hsz⟩
      have hjl : j < s := by rw [← h3]; exact (List.getElem?_eq_some_iff.1 hj).1
      have := h4 j hjl
      rw [hj, Go.Deep.add_add] at this
      exact this
    obtain ⟨g, hgz⟩ := Go.Deep.choose_lt hex
    refine ⟨(List.range len).map g, by simp, ⟨by simpa using hl, fun hne => ?_⟩, ?_, ?_, ?_⟩
    · have hpos' : 0 < len := by
        rcases Nat.eq_zero_or_pos len with h0 | h0
        · subst h0; exact absurd rfl hne
        · exact h0
      obtain ⟨b, o, spot⟩ := a
      have hspot : spot = none := by
        obtain ⟨v0, hv0⟩ : ∃ v, (f (g 0))[0]? = some v := ⟨_, List.getElem?_eq_getElem (by rw [hfl]; exact hpos)⟩
        have hh := (hgz 0 hpos').1 0 v0 hv0
        simpa [Addr.add] using World.cell?_spot hh
      subst hspot
      refine ⟨b, o, rfl, ?_⟩
      have key : ∀ (l : List Nat) (k : Nat), (∀ i, i < l.length → l[i]? = some (k + i)) → k + l.length ≤ len → ∀ j v, ((l.map g).flatMap f)[j]? = some v → W.cell? ⟨b, o + (k * s + j), none⟩ = some v := by
        intro l
        induction l with
        | nil => intro k _ _ j v hv; simp at hv
        | cons y l ih =>
          intro k hk hkl j v hv
          have hy : y = k := by have := hk 0 (by simp); simpa using this
          subst hy
          rw [List.map_cons, List.flatMap_cons] at hv
          by_cases hj : j < s
          · rw [List.getElem?_append_left (by rw [hfl]; exact hj)] at hv
            have := (hgz y (by simp at hkl; omega)).1 j v hv
            rw [Addr.add_mid] at this
            exact this
          · rw [List.getElem?_append_right (by rw [hfl]; omega), hfl] at hv
            have := ih (y + 1) (fun i hi => by have := hk (i + 1) (by simp; omega); simp at this; rw [this]; congr 1; omega) (by simp at hkl; omega) (j - s) v hv
            rw [show y * s + j = (y + 1) * s + (j - s) by rw [Nat.succ_mul]; omega]
            exact this
      intro j v hj
      have := key (List.range len) 0 (fun i hi => by simp at hi; simp [hi]) (by simp) j v hj
      simpa using this
    · intro x hx
      obtain ⟨i, hi, rfl⟩ := List.mem_map.1 hx
      exact (hgz i (by simpa using hi)).2.1
    · have := sum_bulk g size D (List.range len) (fun i hi => (hgz i (by simpa using hi)).2.2)
      simp only [Rows.uptoBulk]
      omega
    · simp only [Rows.uptoBulk]
      have h1 := bulk_len ((List.range len).map D)
      simp only [List.length_map, List.length_range] at h1
      omega
/-- A step. -/
structure St where
  kind : Int
  on : Int
  to : Int
  commit : Cm
  by_ : A20
  inbox : Int
  now : Int
  number : Int
  first : Int
  window : Int
set_option maxRecDepth 100000 in
instance : Inhabited St := ⟨⟨0, 0, 0, Cm.zero, z20, 0, 0, 0, 0, 0⟩⟩
def St.cells (s : St) : List Value := .int .i64 s.kind :: .int .i64 s.on :: .int .i64 s.to :: (s.commit.cells ++ (s.by_.1.map V8 ++ [.int .i64 s.inbox, .int .i64 s.now, .int .i64 s.number, .int .i64 s.first, .int .i64 s.window]))
set_option maxRecDepth 100000 in
theorem St.len (s : St) : s.cells.length = 94 := by simp [St.cells, s.commit.len, s.by_.2]
theorem cellsS : Try.prog.cellsOf 37 = 94 := by kernel_rfl
theorem cut_at (cs : List Value) (a k b : Nat) (h : b = a + k) : cs.drop a = (cs.drop a).take k ++ cs.drop b := by
  subst h
  rw [← List.drop_drop, List.take_append_drop]
theorem split94 (cs : List Value) (h : cs.length = 94) : cs = (cs.drop 0).take 1 ++ ((cs.drop 1).take 1 ++ ((cs.drop 2).take 1 ++ ((cs.drop 3).take 66 ++ ((cs.drop 69).take 20 ++ ((cs.drop 89).take 1 ++ ((cs.drop 90).take 1 ++ ((cs.drop 91).take 1 ++ ((cs.drop 92).take 1 ++ (cs.drop 93).take 1)))))))) := by
  have e9 : (cs.drop 93).take 1 = cs.drop 93 := List.take_of_length_le (by simp; omega)
  rw [e9, ← cut_at cs 92 1 93 rfl, ← cut_at cs 91 1 92 rfl, ← cut_at cs 90 1 91 rfl, ← cut_at cs 89 1 90 rfl, ← cut_at cs 69 20 89 rfl, ← cut_at cs 3 66 69 rfl, ← cut_at cs 2 1 3 rfl, ← cut_at cs 1 1 2 rfl, ← cut_at cs 0 1 1 rfl, List.drop_zero]
set_option maxRecDepth 100000 in
/-- A step that came in. -/
theorem st_cells {H : Type} {enc : TypeId × Value → H} {W : World} {n : Nat} {cs : List Value} {x : DataW H × List MemPlace} (h : DataW.trod enc Try.prog W 0 (fun _ => true) true n 37 cs = some x) :
    ∃ s : St, cs = s.cells := by
  obtain ⟨xs, m, _, _, hcl, hxl, hf⟩ := DataW.trod_struct Try.underlying37 h
  rw [cellsS] at hcl
  match xs, hxl with
  | [x0, x1, x2, x3, x4, x5, x6, x7, x8, x9], _ =>
    have h0 : DataW.trod enc Try.prog W 0 (fun _ => true) true m 3 ((cs.drop 0).take 1) = some x0 := by have := hf 0 _ rfl; simpa [cellsI] using this
    have h1 : DataW.trod enc Try.prog W 0 (fun _ => true) true m 3 ((cs.drop 1).take 1) = some x1 := by have := hf 1 _ rfl; simpa [cellsI] using this
    have h2 : DataW.trod enc Try.prog W 0 (fun _ => true) true m 3 ((cs.drop 2).take 1) = some x2 := by have := hf 2 _ rfl; simpa [cellsI] using this
    have h3 : DataW.trod enc Try.prog W 0 (fun _ => true) true m 25 ((cs.drop 3).take 66) = some x3 := by have := hf 3 _ rfl; simpa [cellsC] using this
    have h4 : DataW.trod enc Try.prog W 0 (fun _ => true) true m 35 ((cs.drop 69).take 20) = some x4 := by have := hf 4 _ rfl; simpa [cellsA] using this
    have h5 : DataW.trod enc Try.prog W 0 (fun _ => true) true m 3 ((cs.drop 89).take 1) = some x5 := by have := hf 5 _ rfl; simpa [cellsI] using this
    have h6 : DataW.trod enc Try.prog W 0 (fun _ => true) true m 3 ((cs.drop 90).take 1) = some x6 := by have := hf 6 _ rfl; simpa [cellsI] using this
    have h7 : DataW.trod enc Try.prog W 0 (fun _ => true) true m 3 ((cs.drop 91).take 1) = some x7 := by have := hf 7 _ rfl; simpa [cellsI] using this
    have h8 : DataW.trod enc Try.prog W 0 (fun _ => true) true m 3 ((cs.drop 92).take 1) = some x8 := by have := hf 8 _ rfl; simpa [cellsI] using this
    have h9 : DataW.trod enc Try.prog W 0 (fun _ => true) true m 3 ((cs.drop 93).take 1) = some x9 := by have := hf 9 _ rfl; simpa [cellsI] using this
    obtain ⟨n0, e0, _, _⟩ := DataW.trod_int Try.underlying3 h0
    obtain ⟨n1, e1, _, _⟩ := DataW.trod_int Try.underlying3 h1
    obtain ⟨n2, e2, _, _⟩ := DataW.trod_int Try.underlying3 h2
    obtain ⟨c3, e3, _, _⟩ := cm_cells h3
    obtain ⟨d4, e4⟩ := arr_in Try.underlying35 cellsA h4
    obtain ⟨n5, e5, _, _⟩ := DataW.trod_int Try.underlying3 h5
    obtain ⟨n6, e6, _, _⟩ := DataW.trod_int Try.underlying3 h6
    obtain ⟨n7, e7, _, _⟩ := DataW.trod_int Try.underlying3 h7
    obtain ⟨n8, e8, _, _⟩ := DataW.trod_int Try.underlying3 h8
    obtain ⟨n9, e9, _, _⟩ := DataW.trod_int Try.underlying3 h9
    refine ⟨⟨n0, n1, n2, c3, d4, n5, n6, n7, n8, n9⟩, ?_⟩
    rw [split94 cs hcl, e0, e1, e2, e3, e4, e5, e6, e7, e8, e9]
    rfl
/-- A cell that is read as a slice is one. -/
theorem slice_cell {H : Type} {enc : TypeId × Value → H} {W : World} {n : Nat} {t e : TypeId} {cs : List Value} {x : DataW H × List MemPlace} (ht : Try.prog.underlying t = some (.slice e)) (h : DataW.trod enc Try.prog W 0 (fun _ => true) true n t cs = some x) :
    ∃ a l c, cs = [.slice a l c] := by
  rcases Go.Deep.open_slice ht h with ⟨hcs, hx⟩ | ⟨a, len', cap', m, n, D, Pl, hcs, _⟩
  · exact ⟨_, _, _, hcs⟩
  · exact ⟨_, _, _, hcs⟩
/-- The steps of a script. -/
theorem steps_in {H : Type} {enc : TypeId × Value → H} {W : World} {n : Nat} {a0 : Option Addr} {len cap : Nat} {x : DataW H × List MemPlace} (h : DataW.trod enc Try.prog W 0 (fun _ => true) true n 26 [.slice a0 len cap] = some x) :
    ∃ xs : List St, xs.length = len ∧ RdN 94 St.cells W a0 cap xs ∧ len ≤ Rows.uptoBulk x.1 := by
  obtain ⟨xs, h1, h2, _, _, h3⟩ := structs_in (α := St) (d := x.1) (p := x.2) 94 St.cells (fun _ => True) (fun _ => 0) Try.underlying26 cellsS (by omega) St.len (fun n cs d p _ h => let ⟨s, hs⟩ := st_cells h; ⟨s, hs, trivial, Nat.zero_le _⟩) ⟨n, h⟩
  exact ⟨xs, h1, h2, h3⟩
/-- A script as a value. -/
def scv (c : Cm) (z : Int) (p : Option Addr) (n cap : Nat) : Value := .agg (c.cells ++ [Value.int .i64 z, Value.slice p n cap]).toArray
theorem cellsX : Try.prog.cellsOf 28 = 68 := by kernel_rfl
theorem cellsL : Try.prog.cellsOf 26 = 1 := by kernel_rfl
theorem split68 (cs : List Value) (h : cs.length = 68) : cs = (cs.drop 0).take 66 ++ ((cs.drop 66).take 1 ++ (cs.drop 67).take 1) := by
  have e9 : (cs.drop 67).take 1 = cs.drop 67 := List.take_of_length_le (by simp; omega)
  rw [e9, ← cut_at cs 66 1 67 rfl, ← cut_at cs 0 66 66 rfl, List.drop_zero]
set_option maxRecDepth 100000 in
/-- A script that came in. -/
theorem script_in {H : Type} {enc : TypeId × Value → H} {W : World} {base : Nat} {v : Value} {d : DataW H} {p : List MemPlace} (hv : Value.okWide Try.prog W .any base 28 v) (h : DataW.Trod enc Try.prog W 0 (fun _ => true) true 28 v d p) :
    ∃ (c : Cm) (z : Int) (a0 : Option Addr) (cap : Nat) (xs : List St), v = scv c z a0 xs.length cap ∧ RdN 94 St.cells W a0 cap xs ∧ xs.length ≤ Rows.uptoBulk d := by
  simp only [Value.okWide, Try.underlying28] at hv
  obtain ⟨cs, rfl, hsz, _⟩ := hv
  obtain ⟨fuel, hf⟩ := h
  obtain ⟨xs, m, _, hxd, hcl, hxl, hfs⟩ := DataW.trod_struct Try.underlying28 hf
  rw [cellsX] at hcl
  match xs, hxl with
  | [x0, x1, x2], _ =>
    have h0 : DataW.trod enc Try.prog W 0 (fun _ => true) true m 25 ((cs.toList.drop 0).take 66) = some x0 := by have := hfs 0 _ rfl; simpa [cellsC, Value.cells] using this
    have h1 : DataW.trod enc Try.prog W 0 (fun _ => true) true m 3 ((cs.toList.drop 66).take 1) = some x1 := by have := hfs 1 _ rfl; simpa [cellsI, Value.cells] using this
    have h2 : DataW.trod enc Try.prog W 0 (fun _ => true) true m 26 ((cs.toList.drop 67).take 1) = some x2 := by have := hfs 2 _ rfl; simpa [cellsL, Value.cells] using this
    obtain ⟨c, e0, _, _⟩ := cm_cells h0
    obtain ⟨z, e1, _, _⟩ := DataW.trod_int Try.underlying3 h1
    obtain ⟨a0, l, cap, e2⟩ := slice_cell Try.underlying26 h2
    rw [e2] at h2
    obtain ⟨ys, hl, hr, hb⟩ := steps_in h2
    subst hl
    refine ⟨c, z, a0, cap, ys, ?_, hr, ?_⟩
    · unfold scv
      have e := split68 cs.toList (by simpa [Value.cells] using hcl)
      rw [e0, e1, e2] at e
      rw [← Array.toArray_toList (xs := cs), e]
      rfl
    · simp only [List.map_cons, List.map_nil, Prod.mk.injEq] at hxd
      rw [hxd.1]
      simp only [Rows.uptoBulk, Rows.uptoBulkAll]
      omega
end Go.Proofs.Ytmjdfglidfdkaaa
