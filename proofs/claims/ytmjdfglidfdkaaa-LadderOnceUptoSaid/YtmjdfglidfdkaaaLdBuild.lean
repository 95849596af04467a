/- Structs that are put together of parts. No condition. -/
import Derived.Test.YtmjdfglidfdkaaaLdFns
import Derived.Laws.Tables
namespace Go.Proofs.Ytmjdfglidfdkaaa
open Go.RowKit
theorem fold_set : ∀ (l : List Value) (k off : Nat) (cs : List Value), off + k + l.length ≤ cs.length → (l.zipIdx k).foldl (fun cs (p : Value × Nat) => cs.set (off + p.2) p.1) cs = cs.take (off + k) ++ (l ++ cs.drop (off + k + l.length))
  | [], k, off, cs, h => by simp
  | x :: l, k, off, cs, h => by
    simp only [List.length_cons] at h
    rw [List.zipIdx_cons, List.foldl_cons]
    rw [fold_set l (k + 1) off (cs.set (off + k) x) (by rw [List.length_set]; omega)]
    have e1 : (cs.set (off + k) x).take (off + (k + 1)) = cs.take (off + k) ++ [x] := by
      rw [show off + (k + 1) = (off + k) + 1 by omega, List.take_add_one, List.getElem?_set, if_pos rfl, if_pos (by omega), List.take_set_of_le (Nat.le_refl _)]
      rfl
    have e2 : (cs.set (off + k) x).drop (off + (k + 1) + l.length) = cs.drop (off + k + (l.length + 1)) := by
      rw [List.drop_set_of_lt (by omega), show off + (k + 1) + l.length = off + k + (l.length + 1) by omega]
    rw [e1, e2]
    simp
theorem foldA : ∀ (l : List (Value × Nat)) (off : Nat) (cs : List Value), l.foldl (fun (cs : Array Value) (p : Value × Nat) => cs.setIfInBounds (off + p.2) p.1) cs.toArray = (l.foldl (fun (cs : List Value) (p : Value × Nat) => cs.set (off + p.2) p.1) cs).toArray
  | [], _, _ => rfl
  | x :: l, off, cs => by
    rw [List.foldl_cons, List.foldl_cons, List.setIfInBounds_toArray]
    exact foldA l off _
theorem fill_part (place : Nat → Option (Nat × Nat)) (A X Bs : List Value) (i : Nat) (v : Value) (rest : List (Nat × Value)) (vs : List Value) (hv : v.cells = vs.toArray) (hp : place i = some (A.length, X.length)) (hx : vs.length = X.length) :
    Instr.fill place (A ++ (X ++ Bs)).toArray ((i, v) :: rest) = Instr.fill place (A ++ (vs ++ Bs)).toArray rest := by
  rw [Instr.fill, hp]
  simp only [hv]
  rw [if_neg (by simp [hx])]
  congr 1
  have h0 : vs.toArray.zipIdx = (vs.zipIdx 0).toArray := by simp
  rw [h0]
  have h1 := foldA (vs.zipIdx 0) A.length (A ++ (X ++ Bs))
  have h2 := fold_set vs 0 A.length (A ++ (X ++ Bs)) (by simp; omega)
  rw [List.foldl_toArray']
  · rw [h1, h2]
    rw [Nat.add_zero, List.take_left' rfl, hx, ← List.drop_drop, List.drop_left' rfl, List.drop_left' rfl]
  · simp
def ladPlaces : Array (Nat × Nat) := #[(0, 66), (66, 1), (67, 1), (68, 1), (69, 1)]
def pdPlaces : Array (Nat × Nat) := #[(0, 1), (1, 66), (67, 20), (87, 1), (88, 1), (89, 1)]
theorem built84 (parts : List (Nat × Value)) : Try.prog.built 84 parts = Instr.fill (fun i => ladPlaces[i]?) (Cm.zero.cells ++ ([.slice none 0 0, .int .i64 0, .int .i64 0, .int .i64 0] : List Value)).toArray parts := by kernel_rfl
theorem built44 (parts : List (Nat × Value)) : Try.prog.built 44 parts = Instr.fill (fun i => pdPlaces[i]?) Pd.zero.cells.toArray parts := by kernel_rfl
theorem built_lad (c : Cm) (z : Int) : Try.prog.built 84 [(0, cv c), (2, .int .i64 z)] = some (lcells (.slice none 0 0) ⟨c, [], z, 0, 0⟩).toArray := by
  rw [built84]
  have h1 := fill_part (fun i => ladPlaces[i]?) [] Cm.zero.cells [.slice none 0 0, .int .i64 0, .int .i64 0, .int .i64 0] 0 (cv c) [(2, .int .i64 z)] c.cells rfl (by rw [Cm.zero.len]; rfl) (by rw [c.len, Cm.zero.len])
  rw [List.nil_append, List.nil_append] at h1
  rw [h1]
  have h2 := fill_part (fun i => ladPlaces[i]?) (c.cells ++ [.slice none 0 0]) [.int .i64 0] [.int .i64 0, .int .i64 0] 2 (.int .i64 z) [] [.int .i64 z] rfl (by rw [List.length_append, c.len]; rfl) rfl
  rw [List.append_assoc] at h2
  rw [show c.cells ++ [.slice none 0 0, .int .i64 0, .int .i64 0, .int .i64 0] = c.cells ++ ([.slice none 0 0] ++ ([.int .i64 0] ++ [.int .i64 0, .int .i64 0])) from rfl, h2]
  unfold lcells
  rw [List.append_assoc]
  rfl
theorem built_pd (n : Int) (c : Cm) (a : A20) (t d : Int) : Try.prog.built 44 [(0, .int .i64 n), (1, cv c), (2, av a), (3, .int .i64 t), (4, .int .i64 d)] = some (Pd.cells ⟨n, c, a, t, d, 0⟩).toArray := by
  rw [built44]
  have h0 := fill_part (fun i => pdPlaces[i]?) [] [Value.int .i64 0] (Cm.zero.cells ++ (z20.1.map V8 ++ [Value.int .i64 0, Value.int .i64 0, Value.int .i64 0])) 0 (.int .i64 n) [(1, cv c), (2, av a), (3, .int .i64 t), (4, .int .i64 d)] [Value.int .i64 n] rfl rfl rfl
  have h1 := fill_part (fun i => pdPlaces[i]?) [Value.int .i64 n] Cm.zero.cells (z20.1.map V8 ++ [Value.int .i64 0, Value.int .i64 0, Value.int .i64 0]) 1 (cv c) [(2, av a), (3, .int .i64 t), (4, .int .i64 d)] c.cells rfl (by rw [Cm.zero.len]; rfl) (by rw [c.len, Cm.zero.len])
  have h2 := fill_part (fun i => pdPlaces[i]?) (Value.int .i64 n :: c.cells) (z20.1.map V8) [Value.int .i64 0, Value.int .i64 0, Value.int .i64 0] 2 (av a) [(3, .int .i64 t), (4, .int .i64 d)] (a.1.map V8) rfl (by rw [List.length_cons, c.len, List.length_map, z20.2]; rfl) (by rw [List.length_map, List.length_map, a.2, z20.2])
  have h3 := fill_part (fun i => pdPlaces[i]?) (Value.int .i64 n :: (c.cells ++ a.1.map V8)) [Value.int .i64 0] [Value.int .i64 0, Value.int .i64 0] 3 (.int .i64 t) [(4, .int .i64 d)] [Value.int .i64 t] rfl (by rw [List.length_cons, List.length_append, c.len, List.length_map, a.2]; rfl) rfl
  have h4 := fill_part (fun i => pdPlaces[i]?) (Value.int .i64 n :: (c.cells ++ (a.1.map V8 ++ [Value.int .i64 t]))) [Value.int .i64 0] [Value.int .i64 0] 4 (.int .i64 d) [] [Value.int .i64 d] rfl (by rw [List.length_cons, List.length_append, List.length_append, c.len, List.length_map, a.2]; rfl) rfl
  simp only [List.cons_append, List.nil_append, List.append_assoc] at h0 h1 h2 h3 h4
  exact h0.trans (h1.trans (h2.trans (h3.trans (h4.trans rfl))))
theorem built_pd0 : Try.prog.built 44 [] = some Pd.zero.cells.toArray := by rw [built44]; rfl
/-- A list of one pending one. -/
theorem run_buildPd (w : World) (p : Pd) : (Instr.buildSlice 38 1 #[(0, pv p)]).run Try.prog w = .ok (.slice (some ⟨w.heap.size, 0, none⟩) 1 1) (w.alloc (.cells p.cells.toArray 44)) := by
  have hinfo := infoPd
  have hu := Try.underlying38
  obtain ⟨i0, hi, hz0, hz1, hz2⟩ := info_parts infoPd
  have hfill : Instr.fill (fun i => some (i * 90, 90)) ((Array.range (1 * 90)).map ((pv Pd.zero).cells[· % (pv Pd.zero).cells.size]!)) [(0, pv p)] = some p.cells.toArray := by
    have e : ((Array.range (1 * 90)).map ((pv Pd.zero).cells[· % (pv Pd.zero).cells.size]!)) = ([] ++ (Pd.zero.cells ++ [])).toArray := by kernel_rfl
    rw [e, fill_part _ [] Pd.zero.cells [] 0 (pv p) [] p.cells rfl (by rw [Pd.zero.len]; rfl) (by rw [p.len, Pd.zero.len])]
    simp [Instr.fill]
  unfold Instr.buildSlice
  simp [run_underlying hu, sizeOf, typeInfo, hi, hz1, zeroValue, hz0]
  rw [show (Array.map (fun x => (pv Pd.zero).cells[x % (pv Pd.zero).cells.size]!) (Array.range 90)) = (Array.range (1 * 90)).map ((pv Pd.zero).cells[· % (pv Pd.zero).cells.size]!) from rfl, hfill]
  simp [newRow]
end Go.Proofs.Ytmjdfglidfdkaaa
