/- Slices of one-cell elements that are read: 'Rd f w p cap d': behind the address p lie the elements d. No condition. -/
import Derived.Test.YtmdgefiojapogaaDoorMem
namespace Go.Proofs.YtmdgefiojapogaaDoor
open Go.RowKit

/-- A goal at which the walk stands. -/
def Froz (p : Prop) : Prop := p
theorem froz_copy {P : Program} {ops : Array Oper} {rest : List Oper} {o : Oper} {a : Act} {w : World} {Q : Exit → Act → World → Prop} (args : Array Operand) (ats : Array TypeId) (ho : o.op = .call { callee := .builtin .copy, args := args, argTypes := ats })
    (h : Froz (wpList P ops Q (o :: rest) a w)) : wpList P ops Q (o :: rest) a w := h

theorem setRow_alloc_old (w : World) (o : Obj) (g : Nat) (cs : Array Value) (h : g < w.heap.size) : (w.alloc o).setRow g cs = (w.setRow g cs).alloc o := by
  simp only [World.setRow, World.alloc]
  congr 1
  apply Array.ext_getElem?
  intro i
  rw [Array.getElem?_modify]
  by_cases hi : g = i
  · subst hi
    simp [Array.getElem?_push, Array.getElem?_modify, show g ≠ w.heap.size by omega]
  · simp [hi, Array.getElem?_push, Array.getElem?_modify]
theorem setRow_alloc_at (w : World) (C cs : Array Value) (t : TypeId) (b : Nat) (hb : b = w.heap.size) : (w.alloc (.cells C t)).setRow b cs = w.alloc (.cells cs t) := by
  subst hb; exact World.setRow_alloc_new w C cs t
theorem setRow_drew (w : World) (b : Nat) (cs : Array Value) : w.drew.setRow b cs = (w.setRow b cs).drew := rfl
theorem storeO_row {P : Program} {w : World} {b : Nat} {ty t : TypeId} {cells C : Array Value} (hg : w.heap[b]? = some (.cells C t (0, 0))) (hc : C.size = cells.size) (hi : (P.info? ty).map (·.size) = some cells.size) (h1 : cells.all (·.oneCell') = true) :
    (StoreO ty (.pointer (some ⟨b, 0, none⟩)) (.agg cells)).run P w = .ok () (w.setRow b cells) := by
  have h := storeO_blk (P := P) (o := 0) hg (by omega) hi h1
  rw [h]
  congr 2
  simp [List.drop_eq_nil_of_le (show C.toList.length ≤ cells.size by simp [hc])]
theorem loadO_row {P : Program} {w : World} {b : Nat} {ty t : TypeId} {C : Array Value} {fr : Nat × Nat} {d : TypeDesc} (hg : w.heap[b]? = some (.cells C t fr)) (hu : P.underlying ty = some d) (hd : d.isRow = true) (hi : (P.info? ty).map (·.size) = some C.size) :
    (LoadO ty (.pointer (some ⟨b, 0, none⟩))).run P w = .ok (.agg C) w := by
  have := loadO_mid (P := P) (ty := ty) (range_blk hg 0 C.toList (fun j v hv => by simpa using hv)) hu hd (by simpa using hi)
  simpa using this
/-- A whole array into a block that has just been made. -/
theorem storeO_new {P : Program} {w : World} {ty t : TypeId} {cells C : Array Value} (b : Nat) (hb : b = w.heap.size) (hc : C.size = cells.size) (hi : (P.info? ty).map (·.size) = some cells.size) (h1 : cells.all (·.oneCell') = true) :
    (StoreO ty (.pointer (some ⟨b, 0, none⟩)) (.agg cells)).run P (w.alloc (.cells C t)).drew = .ok () (w.alloc (.cells cells t)).drew := by
  have h := storeO_blk (P := P) (w := (w.alloc (.cells C t)).drew) (o := 0) (hp_drew (hp_new w (.cells C t) b hb)) (by omega) hi h1
  rw [h, setRow_drew, setRow_alloc_at _ _ _ _ _ hb]
  congr 2
  simp [List.drop_eq_nil_of_le (show C.toList.length ≤ cells.size by simp [hc])]
theorem storeO_new2 {P : Program} {w : World} {ty t : TypeId} {cells C : Array Value} (Y : Obj) (b : Nat) (hb : b = w.heap.size) (hc : C.size = cells.size) (hi : (P.info? ty).map (·.size) = some cells.size) (h1 : cells.all (·.oneCell') = true) :
    (StoreO ty (.pointer (some ⟨b, 0, none⟩)) (.agg cells)).run P ((w.alloc (.cells C t)).alloc Y).drew = .ok () ((w.alloc (.cells cells t)).alloc Y).drew := by
  have h := storeO_blk (P := P) (w := ((w.alloc (.cells C t)).alloc Y).drew) (o := 0) (hp_drew (hp_old (hp_new w (.cells C t) b hb))) (by omega) hi h1
  rw [h, setRow_drew, setRow_alloc_old _ _ _ _ (by simp; omega), setRow_alloc_at _ _ _ _ _ hb]
  congr 4
  simp [List.drop_eq_nil_of_le (show C.toList.length ≤ cells.size by simp [hc])]

/-- 'clear' over a part of a block that is known whole. -/
theorem run_clear_blk {P : Program} {w : World} {b o n cap : Nat} {C : Array Value} {t T E ty : TypeId} {z : Value} (hu : P.underlying T = some (.slice E)) (hz : (P.info? E).map (fun i => (i.zero, i.size)) = some (some z, 1)) (hc : z.cells = #[z]) (h1 : z.oneCell' = true)
    (hn : 0 < n) (hg : w.heap[b]? = some (.cells C t (0, 0))) (hfit : o + n ≤ C.size) :
    (Builtin.clear_ #[T] ty #[.slice (some ⟨b, o, none⟩) n cap]).run P w = .ok (.tuple #[]) (w.setRow b (C.toList.take o ++ (List.replicate n z ++ C.toList.drop (o + n))).toArray) := by
  have hst := run_storeCells_at P b o t (List.replicate n z) 0 C w hg (by simpa using hfit) (fun v hv => by rw [List.eq_of_mem_replicate hv]; exact h1)
  have hzv := (zero_of_info hz).1
  have hzc : (Builtin.zeroCells z.cells n).toList = List.replicate n z := by
    rw [hc]
    unfold Builtin.zeroCells
    apply List.ext_getElem
    · simp
    · intro i h1 h2
      simp at h1
      simp [Nat.mod_one]
  obtain ⟨m, rfl⟩ : ∃ m, n = m + 1 := ⟨n - 1, by omega⟩
  simp only [Builtin.clear_]
  simp only [Nat.add_zero, List.length_replicate] at hst
  simp [run_underlying hu, Sem.run_bind, hzv, hzc, hst, List.append_assoc]
theorem froz_clear {P : Program} {ops : Array Oper} {rest : List Oper} {o : Oper} {a : Act} {w : World} {Q : Exit → Act → World → Prop} (args : Array Operand) (ats : Array TypeId) (ho : o.op = .call { callee := .builtin .clear, args := args, argTypes := ats })
    (h : Froz (wpList P ops Q (o :: rest) a w)) : wpList P ops Q (o :: rest) a w := h
theorem wpList_clear_blk {P : Program} {w : World} {ops : Array Oper} {rest : List Oper} {op : Oper} {a : Act} {Q : Exit → Act → World → Prop} (hgd : op.guard = none) (x : Operand) (T : TypeId)
    (ho : op.op = .call { callee := .builtin .clear, args := #[x], argTypes := #[T] }) {b o n cap : Nat} {C : Array Value} {t E : TypeId} {z : Value} (hx : a.eval x = .slice (some ⟨b, o, none⟩) n cap)
    (hu : P.underlying T = some (.slice E)) (hz : (P.info? E).map (fun i => (i.zero, i.size)) = some (some z, 1)) (hc : z.cells = #[z]) (h1 : z.oneCell' = true)
    (hn : 0 < n) (hg : w.heap[b]? = some (.cells C t (0, 0))) (hfit : o + n ≤ C.size)
    (h : wpList P ops Q rest (a.put op.dst (.tuple #[])) (w.setRow b (C.toList.take o ++ (List.replicate n z ++ C.toList.drop (o + n))).toArray)) : wpList P ops Q (op :: rest) a w := by
  refine wpList_plain hgd fun K hK => ?_
  have hrun := run_clear_blk (P := P) (cap := cap) (ty := op.type) hu hz hc h1 hn hg hfit
  unfold Oper.wp
  simp [execOp, ho, resolve, invoke, builtin, hx, hrun, Result.andThen]
  exact hK _ _ (by simpa using h)

/-- Where a slice begins that is cut off at k. -/
def slp (p : Option Addr) (k cap s : Nat) : Option Addr := if cap = k then p else p.map (·.add (k * s))
theorem sliced_slp (a : Option Addr) (l h m s : Nat) : sliced a l h m s = .slice (slp a l m s) (h - l) (m - l) := rfl
@[simp] theorem slp_zero (p : Option Addr) (cap s : Nat) : slp p 0 cap s = p := by
  unfold slp
  split
  · rfl
  · cases p with
    | none => rfl
    | some a => obtain ⟨b, o, sp⟩ := a; cases sp <;> simp [Addr.add]
@[simp] theorem slp_nil (k cap s : Nat) : slp none k cap s = none := by unfold slp; split <;> rfl
theorem slp_some (b o k cap s : Nat) (h : k < cap) : slp (some ⟨b, o, none⟩) k cap s = some ⟨b, o + k * s, none⟩ := by
  unfold slp; rw [if_neg (by omega)]; simp [Addr.add_mid]

/-- Behind p lie the elements d, of one cell each. -/
structure Rd {α : Type} (f : α → Value) (w : World) (p : Option Addr) (cap : Nat) (d : List α) : Prop where
  le : d.length ≤ cap
  at_ : d ≠ [] → ∃ b o, p = some ⟨b, o, none⟩ ∧ w.rangeAt b o (d.map f)
/-- p does not lead into a block of S. -/
def Off (p : Option Addr) (S : List Nat) : Prop := ∀ a, p = some a → a.block ∉ S
theorem Off.slp {p : Option Addr} {S : List Nat} (h : Off p S) (k cap s : Nat) : Off (slp p k cap s) S := by
  intro a ha
  unfold Go.Proofs.YtmdgefiojapogaaDoor.slp at ha
  split at ha
  · exact h a ha
  · cases p with
    | none => cases ha
    | some x =>
      simp at ha
      subst ha
      have := h x rfl
      obtain ⟨b, o, sp⟩ := x
      simp only [Addr.add]
      split <;> exact this
theorem Off.nil (p : Option Addr) : Off p [] := fun _ _ h => by cases h

namespace Rd
variable {α : Type} {f : α → Value} {a w : World} {p : Option Addr} {cap : Nat} {d : List α} {S : List Nat}
theorem mod (h : Rd f a p cap d) (hm : Mod S a w) (ho : d ≠ [] → Off p S) : Rd f w p cap d :=
  ⟨h.le, fun hd => let ⟨b, o, hp, hr⟩ := h.at_ hd; ⟨b, o, hp, range_mod hm hr (ho hd _ hp)⟩⟩
theorem mod0 (h : Rd f a p cap d) (hm : Mod [] a w) : Rd f w p cap d := h.mod hm (fun _ => Off.nil p)
/-- Where there is an element the block is there. -/
theorem lt (h : Rd f w p cap d) (hd : d ≠ []) (x : Addr) (hx : p = some x) : x.block < w.heap.size := by
  obtain ⟨b, o, hp, hr⟩ := h.at_ hd
  obtain ⟨y, r, rfl⟩ := List.exists_cons_of_ne_nil hd
  have := hr 0 (f y) (by simp)
  rw [hp] at hx
  injection hx with hx
  subst hx
  exact block_lt_of_cell this
theorem off (h : Rd f w p cap d) {g : Nat} (hg : w.heap.size ≤ g) (hd : d ≠ []) : Off p [g] := fun x hx => by
  have := h.lt hd x hx
  simp; omega
theorem nil (f : α → Value) (w : World) (p : Option Addr) (cap : Nat) : Rd f w p cap [] := ⟨Nat.zero_le _, fun h => absurd rfl h⟩
theorem drop (h : Rd f w p cap d) (k : Nat) (hk : k ≤ d.length) : Rd f w (slp p k cap 1) (cap - k) (d.drop k) := by
  refine ⟨by have := h.le; simp; omega, fun hd => ?_⟩
  have hlt : k < d.length := by
    rcases Nat.lt_or_ge k d.length with h' | h'
    · exact h'
    · exact absurd (List.drop_eq_nil_of_le h') hd
  obtain ⟨b, o, hp, hr⟩ := h.at_ (by rintro rfl; simp at hlt)
  subst hp
  refine ⟨b, o + k, by rw [slp_some _ _ _ _ _ (by have := h.le; omega), Nat.mul_one], fun j v hv => ?_⟩
  rw [List.map_drop, List.getElem?_drop] at hv
  rw [Nat.add_assoc]
  exact hr _ _ hv
theorem take (h : Rd f w p cap d) (k : Nat) : Rd f w p cap (d.take k) := by
  refine ⟨by have := h.le; simp; omega, fun hd => ?_⟩
  obtain ⟨b, o, hp, hr⟩ := h.at_ (by rintro rfl; simp at hd)
  refine ⟨b, o, hp, fun j v hv => ?_⟩
  rw [List.map_take] at hv
  rw [List.getElem?_take] at hv
  split at hv
  · exact hr j v hv
  · cases hv
theorem shrink (h : Rd f w p cap d) (c : Nat) (hc : d.length ≤ c) : Rd f w p c d := ⟨hc, h.at_⟩
/-- The element at an index. -/
theorem cell (h : Rd f w p cap d) (k : Nat) (x : α) (hk : d[k]? = some x) : ∃ b o, p = some ⟨b, o, none⟩ ∧ w.cell? ⟨b, o + k, none⟩ = some (f x) := by
  obtain ⟨b, o, hp, hr⟩ := h.at_ (by rintro rfl; simp at hk)
  exact ⟨b, o, hp, hr k _ (by simp [hk])⟩
/-- What lies in a block that is known whole. -/
theorem of_blk {C : Array Value} {t : TypeId} {fr : Nat × Nat} {b o : Nat} (hb : w.heap[b]? = some (.cells C t fr)) (hc : ∀ j v, (d.map f)[j]? = some v → C[o + j]? = some v) (hl : d.length ≤ cap) : Rd f w (some ⟨b, o, none⟩) cap d :=
  ⟨hl, fun _ => ⟨b, o, rfl, range_blk hb o _ hc⟩⟩
end Rd
end Go.Proofs.YtmdgefiojapogaaDoor
