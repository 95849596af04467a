/- Lists of digests in memory. No condition. -/
import Derived.Test.YtmdgefiojapogaaDoorInNext
import Derived.Test.YtmdgefiojapogaaDoorOwnN
import Derived.Laws.Tables
namespace Go.Proofs.YtmdgefiojapogaaDoor
open Go.RowKit
theorem cell_mod0 {a w : World} (m : Mod [] a w) {p : Addr} {v : Value} (h : a.cell? p = some v) : w.cell? p = some v := by
  rw [World.cell?_of_block (w := a) (m.block p.block (block_lt_of_cell h) (by simp))]; exact h
/-- The cells of a digest. -/
def dgc (x : Bs) : List Value := ((x ++ zeros 32).take 32).map V8
theorem dgc_len (x : Bs) : (dgc x).length = 32 := by simp [dgc, zeros_length]
theorem dgc_of {x : Bs} (h : x.length = 32) : dgc x = x.map V8 := by
  unfold dgc
  rw [List.take_left' h]
theorem dgc_one (x : Bs) : ∀ u ∈ dgc x, u.oneCell' = true := by
  intro u hu
  obtain ⟨b, _, rfl⟩ := List.mem_map.1 hu
  exact one8 b
theorem infoD : (Tryd.prog.info? 24).map (fun i => (i.zero, i.size, i.bytes)) = some (some (dv (zeros 32)), 32, 32) := by kernel_rfl
theorem dv_cells (d : Bs) : (dv d).cells = (d.map V8).toArray := rfl
def BuildSlO (t : TypeId) (n : Nat) (parts : Array (Nat × Value)) : Sem Value := Instr.buildSlice t n parts
theorem buildSlO42 (n : Nat) (parts : Array (Nat × Value)) : Instr.buildSlice 36 n parts = BuildSlO 36 n parts := rfl
def BuildO (t : TypeId) (parts : Array (Nat × Value)) : Sem Value := Instr.build t parts
theorem buildO24 (parts : Array (Nat × Value)) : Instr.build 24 parts = BuildO 24 parts := rfl
theorem fold_set : ∀ (l : List Value) (k off : Nat) (cs : List Value), off + k + l.length ≤ cs.length → (l.zipIdx k).foldl (fun cs (p : Value × Nat) => cs.set (off + p.2) p.1) cs = cs.take (off + k) ++ (l ++ cs.drop (off + k + l.length))
  | [], k, off, cs, h => by simp
  | x :: l, k, off, cs, h => by
    simp only [List.length_cons] at h
    rw [List.zipIdx_cons, List.foldl_cons]
    rw [fold_set l (k + 1) off (cs.set (off + k) x) (by rw [List.length_set]; omega)]
    have e1 : (cs.set (off + k) x).take (off + (k + 1)) = cs.take (off + k) ++ [x] := by
      rw [show off + (k + 1) = (off + k) + 1 by omega, List.take_add_one, List.getElem?_set, if_pos rfl, if_pos (by omega), List.take_set_of_le (Nat.le_refl _)]
      rfl
    have e2 : (cs.set (off + k) x).drop (off + (k + 1) + l.length) = cs.drop (off + k + (l.length + 1)) := by
      rw [List.drop_set_of_lt (by omega), show off + (k + 1) + l.length = off + k + (l.length + 1) by omega]
    rw [e1, e2]
    simp
theorem foldA : ∀ (l : List (Value × Nat)) (off : Nat) (cs : List Value), l.foldl (fun (cs : Array Value) (p : Value × Nat) => cs.setIfInBounds (off + p.2) p.1) cs.toArray = (l.foldl (fun (cs : List Value) (p : Value × Nat) => cs.set (off + p.2) p.1) cs).toArray
  | [], _, _ => rfl
  | x :: l, off, cs => by
    rw [List.foldl_cons, List.foldl_cons, List.setIfInBounds_toArray]
    exact foldA l off _
theorem fill_part (place : Nat → Option (Nat × Nat)) (A X Bs : List Value) (i : Nat) (v : Value) (rest : List (Nat × Value)) (vs : List Value) (hv : v.cells = vs.toArray) (hp : place i = some (A.length, X.length)) (hx : vs.length = X.length) :
    Instr.fill place (A ++ (X ++ Bs)).toArray ((i, v) :: rest) = Instr.fill place (A ++ (vs ++ Bs)).toArray rest := by
  rw [Instr.fill, hp]
  simp only [hv]
  rw [if_neg (by simp [hx])]
  congr 1
  have h0 : vs.toArray.zipIdx = (vs.zipIdx 0).toArray := by simp
  rw [h0]
  have h1 := foldA (vs.zipIdx 0) A.length (A ++ (X ++ Bs))
  have h2 := fold_set vs 0 A.length (A ++ (X ++ Bs)) (by simp; omega)
  rw [List.foldl_toArray']
  · rw [h1, h2]
    rw [Nat.add_zero, List.take_left' rfl, hx, ← List.drop_drop, List.drop_left' rfl, List.drop_left' rfl]
  · simp
set_option maxRecDepth 100000 in
/-- A list of one digest. -/
theorem run_buildD (w : World) (d : Bs) (hd : d.length = 32) : (BuildSlO 36 1 #[(0, dv d)]).run Tryd.prog w = .ok (.slice (some ⟨w.heap.size, 0, none⟩) 1 1) (w.alloc (.cells (dgc d).toArray 24)) := by
  have hu := Tryd.underlying36
  obtain ⟨i0, hi, hz0, hz1, hz2⟩ := info_parts infoD
  obtain ⟨Z, hZ⟩ : ∃ Z, Z = dv (zeros 32) := ⟨_, rfl⟩
  obtain ⟨s, hs⟩ : ∃ s : Nat, s = 32 := ⟨_, rfl⟩
  rw [← hZ] at hz0
  rw [← hs] at hz1
  have hfill : Instr.fill (fun i => some (i * s, s)) ((Array.range (1 * s)).map (Z.cells[· % Z.cells.size]!)) [(0, dv d)] = some (dgc d).toArray := by
    have e : ((Array.range (1 * s)).map (Z.cells[· % Z.cells.size]!)) = ([] ++ (((zeros 32).map V8) ++ [])).toArray := by subst hZ hs; kernel_rfl
    rw [e, fill_part _ [] ((zeros 32).map V8) [] 0 (dv d) [] (dgc d) (by rw [dgc_of hd]; rfl) (by simp [zeros_length, hs]) (by rw [dgc_len]; simp [zeros_length])]
    simp [Instr.fill]
  have hsz : (sizeOf 24).run Tryd.prog w = .ok s w := run_sizeOf (by rw [hi]; simp [hz1]) w
  have hzv : (zeroValue 24).run Tryd.prog w = .ok Z w := by simp [zeroValue, typeInfo, hi, hz0]
  have c1 : ¬ (1 * s > 2 ^ 24) := by omega
  have c2 : ¬ (1 * s = 0) := by omega
  clear hs
  unfold BuildSlO Instr.buildSlice
  rw [Sem.run_bind, run_underlying hu]
  simp only [Result.andThen_ok]
  rw [Sem.run_bind, hsz]
  simp only [Result.andThen_ok]
  rw [if_neg c1, if_neg c2, Sem.run_bind, hzv]
  simp only [Result.andThen_ok, pure_bind, hfill]
  simp [newRow]
abbrev OwnD (w : World) (B : Nat) (v : Value) (l : List Bs) : Prop := OwnN 24 32 dgc w B v l
abbrev RdD (w : World) (p : Option Addr) (c : Nat) (l : List Bs) : Prop := RdN 32 dgc w p c l
/-- A list of digests is handed back, the call's own. -/
def DgPost (B : Nat) (l : List Bs) (w : World) (v : Value) (w' : World) : Prop := OwnD w' B v l ∧ Mod [] w w'
/-- A digest out of a list of them. -/
theorem loadD_at {w : World} {b o i : Nat} {c : Nat} {l : List Bs} (h : RdD w (some ⟨b, o, none⟩) c l) (x : Bs) (hi : l[i]? = some x) (hx : x.length = 32) :
    (LoadO 24 (.pointer (some ⟨b, o + i * 32, none⟩))).run Tryd.prog w = .ok (dv x) w := by
  obtain ⟨b', o', e, hr⟩ := h.elem dgc_len i x hi
  simp only [Option.some.injEq, Addr.mk.injEq] at e
  obtain ⟨rfl, rfl, _⟩ := e
  rw [dgc_of hx] at hr
  have h1 : (Tryd.prog.info? 24).map (·.size) = some (x.map V8).length := by rw [List.length_map, hx]; exact info26
  have h2 := loadO_mid hr Tryd.underlying24 rfl h1
  exact h2
end Go.Proofs.YtmdgefiojapogaaDoor
