/- make, copy over lists of bytes. No condition. -/
import Derived.Test.YtmdgefiojapogaaDoorOwn
import Derived.Test.YtmdgefiojapogaaDoorZeros
import Derived.Laws.MakeOwn
import Derived.Laws.IdiomCopy
namespace Go.Proofs.YtmdgefiojapogaaDoor
open Go.RowKit
theorem info5' : (Tryd.prog.info? 5).map (·.size) = some 1 := by kernel_rfl
theorem madeCells_zeros (n : Nat) : madeCells (Value.int .u8 0).cells n = ((zeros n).map V8).toArray := by
  unfold zeros
  apply Array.ext
  · simp [madeCells]
  · intro i h1 h2
    simp [madeCells]
    rw [show (Value.int .u8 0).cells = #[.int .u8 0] from rfl]
    simp [Nat.mod_one]
    rfl
theorem run_make8 (w : World) (n : Nat) (C : Int) (hC : C = n) (hn : n ≤ 140737488355328) : (Instr.makeSlice 27 (.int .i64 C) (.int .i64 C)).run Tryd.prog w = .ok (.slice (some ⟨w.heap.size, 0, none⟩) n n) (w.alloc (.cells ((zeros n).map V8).toArray 5)) := by
  obtain ⟨i0, hi, hz0, hz1, hz2⟩ := info_parts infoByte
  subst hC
  have h := run_make (P := Tryd.prog) w 27 5 i0 (.int .u8 0) Tryd.underlying27 hi hz0 .i64 .i64 n n (by omega) (by omega) (by rw [hz2]; omega) (by omega)
  rw [h, hz1, Int.toNat_natCast, Nat.mul_one, madeCells_zeros]
theorem wpList_make8 {ops : Array Oper} {rest : List Oper} {o : Oper} {a : Act} {Q : Exit → Act → World → Prop} {w : World} (hgd : o.guard = none) (l c : Operand) (ho : o.op = .makeSlice 27 l c) (n : Nat) (C : Int)
    (hl : a.eval l = .int .i64 C) (hc : a.eval c = .int .i64 C) (hC : C = n) (hn : n ≤ 140737488355328)
    (h : wpList Tryd.prog ops Q rest (a.put o.dst (.slice (some ⟨w.heap.size, 0, none⟩) n n)) (w.alloc (.cells ((zeros n).map V8).toArray 5))) : wpList Tryd.prog ops Q (o :: rest) a w := by
  refine wpList_plain hgd fun K hK => ?_
  unfold Oper.wp
  simp [execOp, ho, hl, hc, run_make8 w n C hC hn, Result.andThen]
  exact hK _ _ (by simpa using h)
theorem setRow_same {w : World} {g : Nat} {C : Array Value} {t : TypeId} {fr : Nat × Nat} (h : w.heap[g]? = some (.cells C t fr)) : w.setRow g C = w := by
  have e : w.heap.modify g (fun o => match o with | .cells _ t fr => .cells C t fr | o => o) = w.heap := by
    apply Array.ext_getElem?
    intro i
    rw [Array.getElem?_modify]
    by_cases hi : g = i
    · subst hi; simp [h]
    · simp [hi]
  cases w
  unfold World.setRow
  congr 1
/-- copy(dst[off:], src) into a list of the call's own, wherever the source lies. -/
theorem wpList_copy8 {ops : Array Oper} {rest : List Oper} {o : Oper} {a : Act} {Q : Exit → Act → World → Prop} {w : World} (hgd : o.guard = none) (d s : Operand)
    (ho : o.op = .call { callee := .builtin .copy, args := #[d, s], argTypes := #[27, 27] }) (g off dLen dCap : Nat) (p : Option Addr) (n sCap : Nat) (src D : List UInt8)
    (hd : a.eval d = .slice (some ⟨g, off, none⟩) dLen dCap) (hs : a.eval s = .slice p n sCap) {t : TypeId} (hg : w.heap[g]? = some (.cells (D.map V8).toArray t (0, 0))) (hr : Rd V8 w p sCap src) (hn : n = src.length)
    (hfit : off + dLen ≤ D.length)
    (h : wpList Tryd.prog ops Q rest (a.put o.dst (goInt ((min src.length dLen : Nat) : Int))) (w.setRow g ((D.take off ++ (src.take dLen ++ D.drop (off + min src.length dLen))).map V8).toArray)) : wpList Tryd.prog ops Q (o :: rest) a w := by
  subst hn
  by_cases h0 : Nat.min src.length dLen = 0
  · have h0' : min src.length dLen = 0 := h0
    have e : D.take off ++ (src.take dLen ++ D.drop (off + min src.length dLen)) = D := by
      have e1 : src.take dLen = [] := by
        apply List.eq_nil_of_length_eq_zero; rw [List.length_take, Nat.min_comm]; exact h0'
      rw [e1, h0', List.nil_append, Nat.add_zero, List.take_append_drop]
    rw [e, h0', setRow_same hg] at h
    refine wpList_plain hgd fun K hK => ?_
    have hrun := run_copy_none (P := Tryd.prog) w 27 27 o.type 5 (some ⟨g, off, none⟩) p dLen dCap src.length sCap Tryd.underlying27 info5' h0
    unfold Oper.wp
    simp [execOp, ho, resolve, invoke, builtin, hd, hs, hrun, Result.andThen]
    exact hK _ _ (by simpa using h)
  · have hne : src ≠ [] := by rintro rfl; exact h0 (by simp)
    obtain ⟨b, o', rfl, hrr⟩ := hr.at_ hne
    have hlm : (src.take dLen).length = min src.length dLen := by rw [List.length_take, Nat.min_comm]
    refine wpList_copy_own hgd d s _ _ ho 5 Tryd.underlying27 info5' g off dLen dCap ⟨b, o', none⟩ src.length sCap hd hs _ _ hg ((src.take dLen).map V8) (by rw [List.length_map, hlm]; try rfl) ?_ (by rw [List.length_map, hlm]; simp only [List.size_toArray, List.length_map]; omega) (fun v hv => by obtain ⟨x, _, rfl⟩ := List.mem_map.1 hv; exact one8 x) ?_
    · intro j v hj
      rw [Addr.add_mid]
      refine hrr j v ?_
      rw [List.getElem?_map, List.getElem?_take] at hj
      rw [List.getElem?_map]
      split at hj
      · exact hj
      · simp at hj
    · rw [List.length_map, hlm]
      simpa [List.map_append, List.map_take, List.map_drop] using h
end Go.Proofs.YtmdgefiojapogaaDoor
