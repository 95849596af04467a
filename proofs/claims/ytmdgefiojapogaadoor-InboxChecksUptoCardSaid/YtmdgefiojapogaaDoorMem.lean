/- What a call leaves of memory: 'Mod S a w': from a to w no block of a's but those of S has turned. Reading rows of cells. No condition. -/
import Derived.Test.YtmdgefiojapogaaDoorBase
namespace Go.Proofs.YtmdgefiojapogaaDoor
open Go.RowKit

/-- From a to w no block that was there, but those in S, has turned; the streams stand. -/
structure Mod (S : List Nat) (a w : World) : Prop where
  os : w.os = a.os
  tape : w.tape = a.tape
  output : w.output = a.output
  size : a.heap.size ≤ w.heap.size
  block : ∀ k, k < a.heap.size → k ∉ S → w.heap[k]? = a.heap[k]?

theorem lt_of_block {w : World} {b : Nat} {o : Obj} (h : w.heap[b]? = some o) : b < w.heap.size := (Array.getElem?_eq_some_iff.1 h).1

namespace Mod
variable {S S' : List Nat} {a b w : World}
theorem refl (S : List Nat) (w : World) : Mod S w w := ⟨rfl, rfl, rfl, Nat.le_refl _, fun _ _ _ => rfl⟩
theorem alloc (h : Mod S a w) (o : Obj) : Mod S a (w.alloc o) :=
  ⟨h.os, h.tape, h.output, Nat.le_trans h.size (by simp), fun k hk hs => (Below.heap_alloc w o k (Nat.lt_of_lt_of_le hk h.size)).trans (h.block k hk hs)⟩
theorem drew (h : Mod S a w) : Mod S a w.drew := ⟨h.os, h.tape, h.output, h.size, h.block⟩
theorem drewN (h : Mod S a w) (n : Nat) : Mod S a (w.drewN n) := ⟨h.os, h.tape, h.output, h.size, h.block⟩
theorem setRow (h : Mod S a w) {g : Nat} (hg : g ∈ S ∨ a.heap.size ≤ g) (cs : Array Value) : Mod S a (w.setRow g cs) :=
  ⟨h.os, h.tape, h.output, by simpa using h.size, fun k hk hs => (setRow_other w g k cs (by
    rintro rfl
    rcases hg with hg | hg
    · exact hs hg
    · omega)).trans (h.block k hk hs)⟩
theorem setCell (h : Mod S a w) {p : Addr} (hg : p.block ∈ S ∨ a.heap.size ≤ p.block) (u : Value) : Mod S a (w.setCell p u) :=
  ⟨h.os, h.tape, h.output, by simpa [World.setCell] using h.size, fun k hk hs => (Below.heap_setCell w p u k (by
    rintro rfl
    rcases hg with hg | hg
    · exact hs hg
    · omega)).trans (h.block k hk hs)⟩
theorem setCells (b : Nat) : ∀ (vs : List Value) (o : Nat) (w : World), Mod S a w → (b ∈ S ∨ a.heap.size ≤ b) → Mod S a (w.setCells b o vs)
  | [], _, _, h, _ => h
  | v :: r, o, w, h, hg => by
    rw [World.setCells]
    exact setCells b r (o + 1) _ (h.setCell (p := ⟨b, o, none⟩) hg v) hg
theorem trans (h : Mod S a b) (k : Mod S' b w) (hs : ∀ x ∈ S', x ∈ S ∨ a.heap.size ≤ x) : Mod S a w :=
  ⟨k.os.trans h.os, k.tape.trans h.tape, k.output.trans h.output, Nat.le_trans h.size k.size, fun i hi hn =>
    (k.block i (Nat.lt_of_lt_of_le hi h.size) (fun hx => by
      rcases hs i hx with hx | hx
      · exact hn hx
      · omega)).trans (h.block i hi hn)⟩
theorem trans0 (h : Mod S a b) (k : Mod [] b w) : Mod S a w := h.trans k (fun _ hx => by cases hx)
theorem mono (h : Mod S a w) (hs : ∀ x ∈ S, x ∈ S' ∨ a.heap.size ≤ x) : Mod S' a w := (refl S' a).trans h hs
theorem get (h : Mod S a w) {i : Nat} {o : Obj} (ho : a.heap[i]? = some o) (hi : i ∉ S) : w.heap[i]? = some o := (h.block i (lt_of_block ho) hi).trans ho
theorem get0 (h : Mod [] a w) {i : Nat} {o : Obj} (ho : a.heap[i]? = some o) : w.heap[i]? = some o := h.get ho (by simp)
theorem below (h : Mod [] a w) : Below a.heap.size a w := ⟨h.os, h.tape, h.output, h.size, fun k hk => h.block k hk (by simp)⟩
theorem of_below (h : Below a.heap.size a w) : Mod [] a w := ⟨h.os, h.tape, h.output, h.size, fun k hk _ => h.block k hk⟩
theorem of_grown {row : Option Nat} (h : Mod S a b) (k : b.grownBy w row) (hr : ∀ g, row = some g → g ∈ S ∨ a.heap.size ≤ g) : Mod S a w :=
  ⟨k.os.trans h.os, k.tape.trans h.tape, k.output.trans h.output, Nat.le_trans h.size k.size, fun i hi hn =>
    (k.block i (Nat.lt_of_lt_of_le hi h.size) (fun hx => by
      rcases hr i hx.symm with hx | hx
      · exact hn hx
      · omega)).trans (h.block i hi hn)⟩
end Mod

theorem hp_new (w : World) (o : Obj) (b : Nat) (hb : b = w.heap.size) : (w.alloc o).heap[b]? = some o := by subst hb; exact heap_alloc_new w o
theorem hp_old {w : World} {o o' : Obj} {b : Nat} (h : w.heap[b]? = some o') : (w.alloc o).heap[b]? = some o' := (Below.heap_alloc w o b (lt_of_block h)).trans h
theorem hp_drewN {w : World} {n b : Nat} {o : Obj} (h : w.heap[b]? = some o) : (w.drewN n).heap[b]? = some o := h
theorem hp_drew {w : World} {b : Nat} {o : Obj} (h : w.heap[b]? = some o) : w.drew.heap[b]? = some o := h
theorem hp_setRow {w : World} {g : Nat} {old cs : Array Value} {t : TypeId} {fr : Nat × Nat} (h : w.heap[g]? = some (.cells old t fr)) : (w.setRow g cs).heap[g]? = some (.cells cs t fr) := setRow_heap w g old cs t fr h
theorem hp_setRow_ne {w : World} {g b : Nat} {cs : Array Value} {o : Obj} (h : w.heap[b]? = some o) (hne : b ≠ g) : (w.setRow g cs).heap[b]? = some o := (setRow_other w g b cs hne).trans h

/-- A cell of a block that is known whole. -/
theorem cell_blk {w : World} {b : Nat} {C : Array Value} {t : TypeId} {fr : Nat × Nat} (h : w.heap[b]? = some (.cells C t fr)) (j : Nat) : w.cell? ⟨b, j, none⟩ = C[j]? := cell_of_row w b j C t fr h
theorem frozen_blk {w : World} {b : Nat} {C : Array Value} {t : TypeId} (h : w.heap[b]? = some (.cells C t (0, 0))) (j : Nat) : w.frozen? ⟨b, j, none⟩ = false := frozen_of_row w b j C t h
theorem setCell_blk {w : World} {b j : Nat} {C : Array Value} {t : TypeId} {fr : Nat × Nat} (v : Value) (h : w.heap[b]? = some (.cells C t fr)) : w.setCell ⟨b, j, none⟩ v = w.setRow b (C.setIfInBounds j v) := setCell_eq_setRow w b j C t fr v h

theorem run_sizeOf {P : Program} {T : TypeId} {n : Nat} (hi : (P.info? T).map (·.size) = some n) (w : World) : (sizeOf T).run P w = .ok n w := by
  cases hq : P.info? T with
  | none => simp [hq] at hi
  | some i => simp [hq] at hi; simp [sizeOf, typeInfo, hq, hi]
theorem run_isAgg {P : Program} {T : TypeId} {d : TypeDesc} (hu : P.underlying T = some d) (w : World) : (isAgg T).run P w = .ok (match d with | .struct _ | .array _ _ => true | _ => false) w := by
  unfold isAgg
  rw [Sem.run_bind, run_underlying hu w]
  cases d <;> rfl
/-- An element of an array that is a value, at an index that is a variable. -/
theorem run_index_agg {P : Program} (w : World) {T E : TypeId} {n k : Nat} {cs : Array Value} {v : Value} {d : TypeDesc} (hu : P.underlying T = some (.array n E)) (hE : P.underlying E = some d)
    (hd : (match d with | .struct _ | .array _ _ => true | _ => false) = false) (hi : (P.info? E).map (·.size) = some 1) (hk : k < n) (hv : cs[k]? = some v) :
    (Instr.index T (.agg cs) (.int .i64 (k : Int))).run P w = .ok v w := by
  unfold Instr.index
  simp only [asIntOf, Sem.run_bind, Sem.run_pure, Result.andThen_ok, run_underlying hu w]
  have h : (0 : Int) ≤ (k : Int) ∧ (k : Int) < (n : Int) := by omega
  simp only [h, and_self, if_true, Sem.run_bind, run_sizeOf hi w, Result.andThen_ok, part, run_isAgg hE w, hd, Int.toNat_natCast, Nat.mul_one, hv]
  rfl

/-- A whole array out of the middle of a block, in the head of a region that draws its order. -/
theorem still_load_mid {P : Program} {ops : Array Oper} {rest : List Oper} {o : Oper} {a : Act} {w : World} {Q : Act → Prop} (hgd : o.guard = none) (ty : TypeId) (x : Operand) (ho : o.op = .load ty x)
    (b off : Nat) (hx : a.eval x = .pointer (some ⟨b, off, none⟩)) (cs : List Value) (d : TypeDesc) (hc : w.rangeAt b off cs)
    (hu : P.underlying ty = some d) (hd : d.isRow = true) (hi : (P.info? ty).map (·.size) = some cs.length)
    (h : wpStill P ops w Q rest (a.put o.dst (.agg cs.toArray))) : wpStill P ops w Q (o :: rest) a := by
  have hw : Region.wanted o (yielded ops a.tmps) = true := by simp [Region.wanted, hgd]
  unfold wpStill
  rw [if_pos hw]
  unfold Oper.still execOp
  simp only [ho, hx, Sem.run_bind, run_loadAt_mid w b off ty cs d hc hu hd hi, Result.andThen_ok, Sem.run_pure]
  exact ⟨rfl, h⟩

/-- A whole array (or struct) into the middle of a block that is known whole. -/
theorem wpList_store_blk {P : Program} {ops : Array Oper} {rest : List Oper} {op : Oper} {a : Act} {w : World} {Q : Exit → Act → World → Prop} (hgd : op.guard = none) (ty : TypeId) (x y : Operand) (ho : op.op = .store ty x y)
    (b o : Nat) (cells : Array Value) (hx : a.eval x = .pointer (some ⟨b, o, none⟩)) (hy : a.eval y = .agg cells) (C : Array Value) (t : TypeId) (hg : w.heap[b]? = some (.cells C t (0, 0)))
    (hfit : o + cells.size ≤ C.size) (hi : (P.info? ty).map (·.size) = some cells.size) (h1 : cells.all (·.oneCell') = true)
    (h : wpList P ops Q rest (a.put op.dst undef) (w.setRow b (C.toList.take o ++ (cells.toList ++ C.toList.drop (o + cells.size))).toArray)) : wpList P ops Q (op :: rest) a w := by
  refine wpList_plain hgd fun _ hK => ?_
  have hst := run_storeCells_at P b o t cells.toList 0 C w hg (by simpa using hfit) (fun v hv => (Array.all_eq_true_iff_forall_mem.1 h1) v (by simpa using hv))
  have hrun : (storeVar ty ⟨b, o, none⟩ (.agg cells)).run P w = .ok () (w.setRow b (C.toList.take o ++ (cells.toList ++ C.toList.drop (o + cells.size))).toArray) := by
    cases hq : P.info? ty with
    | none => simp [hq] at hi
    | some i =>
      have hs : cells.size = i.size := by simp [hq] at hi; omega
      simp only [Nat.add_zero, Array.length_toList] at hst
      simp [storeVar, sizeOf, typeInfo, hq, Value.cells, hs] at hst ⊢
      simpa [hs, List.append_assoc] using hst
  unfold Oper.wp execOp
  simp only [ho, hx, hy, Instr.storeAt, Instr.sureAddr, Sem.run_bind, Sem.run_pure, Result.andThen_ok, hrun]
  exact hK _ _ h

/-- A struct or an array that is put together, by an equation. -/
theorem wpList_built {P : Program} {ops : Array Oper} {rest : List Oper} {o : Oper} {a : Act} {w : World} {Q : Exit → Act → World → Prop} (hg : o.guard = none) (t : TypeId) (parts : Array (Nat × Operand)) (ho : o.op = .build t parts)
    (C : Array Value) (hb : P.built t (parts.toList.map fun p => (p.1, a.eval p.2)) = some C) (h : wpList P ops Q rest (a.put o.dst (.agg C)) w) : wpList P ops Q (o :: rest) a w := by
  have hb' : P.built t (parts.map fun (i, x) => (i, a.eval x)).toList = some C := by rw [← hb, Array.toList_map]
  exact wpList_build hg t parts ho (by rw [hb']; rfl) (by rw [hb']; exact h)

/-- Loads and stores of whole arrays behind names of their own, into which the walk does not look: it meets them by equations. -/
def LoadO (t : TypeId) (p : Value) : Sem Value := Instr.loadAt t p
def StoreO (t : TypeId) (p v : Value) : Sem Unit := Instr.storeAt t p v
theorem loadO (t : TypeId) (p : Value) : Instr.loadAt t p = LoadO t p := rfl
theorem storeO (t : TypeId) (p v : Value) : Instr.storeAt t p v = StoreO t p v := rfl
theorem loadO_mid {P : Program} {w : World} {b o : Nat} {ty : TypeId} {cs : List Value} {d : TypeDesc} (hc : w.rangeAt b o cs) (hu : P.underlying ty = some d) (hd : d.isRow = true) (hi : (P.info? ty).map (·.size) = some cs.length) :
    (LoadO ty (.pointer (some ⟨b, o, none⟩))).run P w = .ok (.agg cs.toArray) w := run_loadAt_mid w b o ty cs d hc hu hd hi
theorem storeO_blk {P : Program} {w : World} {b o : Nat} {ty : TypeId} {cells : Array Value} {C : Array Value} {t : TypeId} (hg : w.heap[b]? = some (.cells C t (0, 0)))
    (hfit : o + cells.size ≤ C.size) (hi : (P.info? ty).map (·.size) = some cells.size) (h1 : cells.all (·.oneCell') = true) :
    (StoreO ty (.pointer (some ⟨b, o, none⟩)) (.agg cells)).run P w = .ok () (w.setRow b (C.toList.take o ++ (cells.toList ++ C.toList.drop (o + cells.size))).toArray) := by
  have hst := run_storeCells_at P b o t cells.toList 0 C w hg (by simpa using hfit) (fun v hv => (Array.all_eq_true_iff_forall_mem.1 h1) v (by simpa using hv))
  have hrun : (storeVar ty ⟨b, o, none⟩ (.agg cells)).run P w = .ok () (w.setRow b (C.toList.take o ++ (cells.toList ++ C.toList.drop (o + cells.size))).toArray) := by
    cases hq : P.info? ty with
    | none => simp [hq] at hi
    | some i =>
      have hs : cells.size = i.size := by simp [hq] at hi; omega
      simp only [Nat.add_zero, Array.length_toList] at hst
      simp [storeVar, sizeOf, typeInfo, hq, Value.cells, hs] at hst ⊢
      simpa [hs, List.append_assoc] using hst
  unfold StoreO
  simp only [Instr.storeAt, Instr.sureAddr, Sem.run_bind, Sem.run_pure, Result.andThen_ok, hrun]

/-- The world under a name of its own, with what is wanted of it. -/
theorem abs_w {C : World → Prop} (F : World → Prop) {w : World} (hf : F w) (h : ∀ W, F W → C W) : C w := h w hf

/-- Cells at a place, wherever they lie. -/
theorem range_mod {S : List Nat} {a w : World} (h : Mod S a w) {b o : Nat} {cs : List Value} (hr : a.rangeAt b o cs) (hb : b ∉ S) : w.rangeAt b o cs := fun j v hv => by
  have hc := hr j v hv
  have hlt : b < a.heap.size := block_lt_of_cell hc
  rw [World.cell?_of_block (w := a) (h.block b hlt hb)]
  exact hc
theorem range_blk {w : World} {b : Nat} {C : Array Value} {t : TypeId} {fr : Nat × Nat} (h : w.heap[b]? = some (.cells C t fr)) (o : Nat) (cs : List Value) (hc : ∀ j v, cs[j]? = some v → C[o + j]? = some v) : w.rangeAt b o cs := fun j v hv => by
  rw [cell_blk h]; exact hc j v hv
theorem set_mix {α : Type} (z s : List α) (i : Nat) (v : α) (hz : z[i]? = some v) (hl : s.length = z.length) : (z.take i ++ s.drop i).set i v = z.take (i + 1) ++ s.drop (i + 1) := by
  have hi : i < z.length := (List.getElem?_eq_some_iff.1 hz).1
  have hv : z[i] = v := (List.getElem?_eq_some_iff.1 hz).2
  rw [List.take_succ_eq_append_getElem hi, hv]
  rw [List.set_append_right _ _ (by simp; omega)]
  simp only [List.length_take, show min i z.length = i by omega, Nat.sub_self, List.append_assoc, List.singleton_append]
  rw [List.drop_eq_getElem_cons (show i < s.length by omega)]; rfl
theorem hp_sc {w : World} {b j : Nat} {C : Array Value} {t : TypeId} {fr : Nat × Nat} {v : Value} (h : w.heap[b]? = some (.cells C t fr)) : (w.setCell ⟨b, j, none⟩ v).heap[b]? = some (.cells (C.setIfInBounds j v) t fr) := by
  rw [setCell_blk v h]; exact hp_setRow h
theorem hp_sc_ne {w : World} {g b j : Nat} {o : Obj} {v : Value} (h : w.heap[b]? = some o) (hne : b ≠ g) : (w.setCell ⟨g, j, none⟩ v).heap[b]? = some o := (Below.heap_setCell w ⟨g, j, none⟩ v b hne).trans h
end Go.Proofs.YtmdgefiojapogaaDoor
