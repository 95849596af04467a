/- Blocks of digests: make, copy, store, load. No condition. -/
import Derived.Test.YtbbobpjcbnfpfaaDoorTrClash
import Derived.Laws.MakeOwn
import Derived.Laws.CopyRow
namespace Go.Proofs.YtbbobpjcbnfpfaaDoor
open Go.RowKit
/-- The cells of a list of digests. -/
def blkD (l : List Bs) : Array Value := (l.flatMap dgc).toArray
theorem blkD_size (l : List Bs) : (blkD l).size = l.length * 32 := by unfold blkD; rw [List.size_toArray, length_flatMap_const dgc 32 dgc_len]
theorem rdD_blk {w : World} {b c : Nat} {l m : List Bs} {t : TypeId} {fr : Nat × Nat} (h : w.heap[b]? = some (.cells (blkD (l ++ m)) t fr)) (hc : l.length ≤ c) : RdD w (some ⟨b, 0, none⟩) c l :=
  RdN.of_blk h (fun j v hj => by
    unfold blkD
    rw [Nat.zero_add, List.getElem?_toArray, List.flatMap_append, List.getElem?_append_left (List.getElem?_eq_some_iff.1 hj).1]
    exact hj) hc
theorem flat_set : ∀ (l : List Bs) (j : Nat) (x : Bs), j < l.length → (l.set j x).flatMap dgc = (l.flatMap dgc).take (j * 32) ++ (dgc x ++ (l.flatMap dgc).drop (j * 32 + 32))
  | [], j, x, h => by simp at h
  | y :: l, 0, x, _ => by
    rw [List.set_cons_zero, List.flatMap_cons, List.flatMap_cons, Nat.zero_mul, List.take_zero, Nat.zero_add, List.drop_left' (dgc_len y), List.nil_append]
  | y :: l, j + 1, x, h => by
    rw [List.set_cons_succ, List.flatMap_cons, List.flatMap_cons, flat_set l j x (by simpa using h), Nat.succ_mul]
    rw [List.take_append, List.drop_append, List.take_of_length_le (l := dgc y) (by rw [dgc_len]; omega), List.drop_of_length_le (l := dgc y) (by rw [dgc_len]; omega), dgc_len]
    rw [show j * 32 + 32 - 32 = j * 32 by omega, show j * 32 + 32 + 32 - 32 = j * 32 + 32 by omega, List.append_assoc, List.nil_append]
theorem storeD_at {w : World} {b j : Nat} {l : List Bs} {t : TypeId} (h : w.heap[b]? = some (.cells (blkD l) t (0, 0))) (x : Bs) (hx : x.length = 32) (hj : j < l.length) :
    (StoreO 24 (.pointer (some ⟨b, j * 32, none⟩)) (dv x)).run Tryd.prog w = .ok () (w.setRow b (blkD (l.set j x))) := by
  have h1 : (x.map V8).toArray.size = 32 := by simp [hx]
  have hs := storeO_blk (P := Tryd.prog) (ty := 24) (o := j * 32) (cells := (x.map V8).toArray) h (by rw [blkD_size, h1]; omega) (by rw [h1]; exact info26) (by rw [Array.all_eq_true_iff_forall_mem]; intro v hv; simp at hv; obtain ⟨a, _, rfl⟩ := hv; exact one8 a)
  have e : blkD (l.set j x) = ((blkD l).toList.take (j * 32) ++ ((x.map V8).toArray.toList ++ (blkD l).toList.drop (j * 32 + (x.map V8).toArray.size))).toArray := by
    unfold blkD
    rw [flat_set l j x hj, h1, dgc_of hx]
  rw [e]
  exact hs
theorem zeroD_cells (n : Nat) : madeCells (dv (zeros 32)).cells (n * 32) = blkD (List.replicate n (zeros 32)) := by
  have hz : ∀ v ∈ dgc (zeros 32), v = V8 0 := by
    rw [dgc_of (zeros_length 32)]
    intro v hv
    obtain ⟨a, ha, rfl⟩ := List.mem_map.1 hv
    rw [List.eq_of_mem_replicate ha]
  have hb : blkD (List.replicate n (zeros 32)) = (List.replicate (n * 32) (V8 0)).toArray := by
    unfold blkD
    congr 1
    rw [List.eq_replicate_iff]
    refine ⟨by rw [length_flatMap_const dgc 32 dgc_len]; simp, fun v hv => ?_⟩
    obtain ⟨a, ha, hv⟩ := List.mem_flatMap.1 hv
    rw [List.eq_of_mem_replicate ha] at hv
    exact hz v hv
  rw [hb]
  have hd : (dv (zeros 32)).cells = (List.replicate 32 (V8 0)).toArray := by
    rw [dv_cells]; unfold zeros; simp [List.map_replicate]
  rw [hd]
  have hm : ∀ s : Nat, 0 < s → madeCells (List.replicate s (V8 0)).toArray (n * s) = (List.replicate (n * s) (V8 0)).toArray := by
    intro s hs
    apply Array.ext
    · simp [madeCells]
    · intro i h1 h2
      have : i % s < s := Nat.mod_lt _ hs
      simp [madeCells, this]
  exact hm 32 (by omega)
theorem run_makeD (w : World) (n : Nat) (C : Int) (hC : C = n) (hn : n ≤ 1099511627776) : (Instr.makeSlice 42 (.int .i64 C) (.int .i64 C)).run Tryd.prog w = .ok (.slice (some ⟨w.heap.size, 0, none⟩) n n) (w.alloc (.cells (blkD (List.replicate n (zeros 32))) 24)) := by
  obtain ⟨i0, hi, hz0, hz1, hz2⟩ := info_parts infoD
  subst hC
  have h := run_make (P := Tryd.prog) w 42 24 i0 (dv (zeros 32)) Tryd.underlying42 hi hz0 .i64 .i64 n n (by omega) (by omega) (by rw [hz2]; omega) (by omega)
  rw [h, hz1, Int.toNat_natCast, zeroD_cells]
theorem wpList_makeD {ops : Array Oper} {rest : List Oper} {o : Oper} {a : Act} {Q : Exit → Act → World → Prop} {w : World} (hgd : o.guard = none) (l c : Operand) (ho : o.op = .makeSlice 42 l c) (n : Nat) (C : Int)
    (hl : a.eval l = .int .i64 C) (hc : a.eval c = .int .i64 C) (hC : C = n) (hn : n ≤ 1099511627776)
    (h : wpList Tryd.prog ops Q rest (a.put o.dst (.slice (some ⟨w.heap.size, 0, none⟩) n n)) (w.alloc (.cells (blkD (List.replicate n (zeros 32))) 24))) : wpList Tryd.prog ops Q (o :: rest) a w := by
  refine wpList_plain hgd fun K hK => ?_
  unfold Oper.wp
  simp [execOp, ho, hl, hc, run_makeD w n C hC hn, Result.andThen]
  exact hK _ _ (by simpa using h)
theorem flat_take (l : List Bs) (k : Nat) : (l.flatMap dgc).take (k * 32) = (l.take k).flatMap dgc := by
  rcases Nat.lt_or_ge k l.length with h | h
  · have e : l.flatMap dgc = (l.take k).flatMap dgc ++ (l.drop k).flatMap dgc := by rw [← List.flatMap_append, List.take_append_drop]
    have hl : ((l.take k).flatMap dgc).length = k * 32 := by rw [length_flatMap_const dgc 32 dgc_len, List.length_take_of_le (by omega)]
    rw [e, List.take_left' hl]
  · rw [List.take_of_length_le h, List.take_of_length_le (by rw [length_flatMap_const dgc 32 dgc_len]; omega)]
theorem flat_drop (l : List Bs) (k : Nat) : (l.flatMap dgc).drop (k * 32) = (l.drop k).flatMap dgc := by
  rcases Nat.lt_or_ge k l.length with h | h
  · have e : l.flatMap dgc = (l.take k).flatMap dgc ++ (l.drop k).flatMap dgc := by rw [← List.flatMap_append, List.take_append_drop]
    have hl : ((l.take k).flatMap dgc).length = k * 32 := by rw [length_flatMap_const dgc 32 dgc_len, List.length_take_of_le (by omega)]
    rw [e, List.drop_left' hl]
  · rw [List.drop_of_length_le h, List.drop_of_length_le (by rw [length_flatMap_const dgc 32 dgc_len]; omega)]
    rfl
theorem flat_one (l : List Bs) : ∀ u ∈ l.flatMap dgc, u.oneCell' = true := by
  intro u hu
  obtain ⟨x, _, hx⟩ := List.mem_flatMap.1 hu
  exact dgc_one x u hx
/-- copy(dst[off:], src), dst a row of the call's own. -/
theorem run_copyD (w : World) (ty : TypeId) (g off dLen dCap : Nat) (p : Option Addr) (sCap : Nat) (src D : List Bs) {t : TypeId} (hg : w.heap[g]? = some (.cells (blkD D) t (0, 0))) (hr : RdD w p sCap src) (hfit : off + dLen ≤ D.length) :
    (Builtin.copy_ #[42, 42] ty #[.slice (some ⟨g, off * 32, none⟩) dLen dCap, .slice p src.length sCap]).run Tryd.prog w = .ok (goInt ((min src.length dLen : Nat) : Int)) (w.setRow g (blkD (D.take off ++ (src.take dLen ++ D.drop (off + min src.length dLen))))) := by
  have hu := Tryd.underlying42
  obtain ⟨i0, hi, _, hz1, _⟩ := info_parts infoD
  have hc0 : ∀ (x : Addr), (loadCells x 0).run Tryd.prog w = .ok #[] w := fun x => by simpa using run_loadCells_list (P := Tryd.prog) w x [] (by simp)
  obtain ⟨m, hm⟩ : ∃ m, m = Nat.min src.length dLen := ⟨_, rfl⟩
  have hm' : min src.length dLen = m := hm.symm
  have hm2 : dLen.min src.length = m := by rw [hm]; exact Nat.min_comm _ _
  have hlm : (src.take dLen).length = m := by rw [List.length_take, Nat.min_comm]; exact hm'
  have htk : src.take m = src.take dLen := by
    rw [← hm', List.take_eq_take_iff]; omega
  rw [hm']
  by_cases h0 : m = 0
  · subst h0
    rw [List.eq_nil_of_length_eq_zero hlm, List.nil_append, Nat.add_zero, List.take_append_drop, setRow_self w g _ t (0, 0) hg]
    cases p <;> simp [Builtin.copy_, run_underlying hu, Builtin.lenOf, Builtin.firstCells, sizeOf, typeInfo, hi, ← hm, storeCells, hc0]
  · have hne : src ≠ [] := by rintro rfl; exact h0 (by rw [hm]; simp)
    obtain ⟨b, o, rfl, hrr⟩ := hr.at_ hne
    obtain ⟨cs, hcs⟩ : ∃ cs : List Value, cs = (src.take dLen).flatMap dgc := ⟨_, rfl⟩
    have hcl : cs.length = m * 32 := by rw [hcs, length_flatMap_const dgc 32 dgc_len, hlm]
    have hl := run_loadCells_list (P := Tryd.prog) w ⟨b, o, none⟩ cs (fun j v hj => by
      rw [Addr.add_mid]
      refine hrr j v ?_
      have e : src.flatMap dgc = (src.take dLen).flatMap dgc ++ (src.drop dLen).flatMap dgc := by rw [← List.flatMap_append, List.take_append_drop]
      rw [hcs] at hj
      rw [e, List.getElem?_append_left (List.getElem?_eq_some_iff.1 hj).1]
      exact hj)
    have hst := run_storeCells_at Tryd.prog g (off * 32) t cs 0 (blkD D) w hg (by rw [hcl, blkD_size]; omega) (by rw [hcs]; exact flat_one _)
    have e : ((blkD D).toList.take (off * 32 + 0) ++ cs ++ (blkD D).toList.drop (off * 32 + 0 + cs.length)).toArray = blkD (D.take off ++ (src.take dLen ++ D.drop (off + m))) := by
      unfold blkD
      rw [hcl, Nat.add_zero, show off * 32 + m * 32 = (off + m) * 32 by omega]
      simp only [flat_take, flat_drop, hcs, List.flatMap_append, List.append_assoc]
    rw [e] at hst
    rw [hcl] at hl
    generalize blkD (D.take off ++ (src.take dLen ++ D.drop (off + m))) = Z at hst ⊢
    clear e hg hrr hr
    simp [Builtin.copy_, run_underlying hu, Builtin.lenOf, Builtin.firstCells, sizeOf, typeInfo, hi, hz1, ← hm, hl, hst]
theorem wpList_copyD {ops : Array Oper} {rest : List Oper} {o : Oper} {a : Act} {Q : Exit → Act → World → Prop} {w : World} (hgd : o.guard = none) (d s : Operand)
    (ho : o.op = .call { callee := .builtin .copy, args := #[d, s], argTypes := #[42, 42] }) (g off dLen dCap : Nat) (p : Option Addr) (n sCap : Nat) (src D : List Bs)
    (hd : a.eval d = .slice (some ⟨g, off * 32, none⟩) dLen dCap) (hs : a.eval s = .slice p n sCap) {t : TypeId} (hg : w.heap[g]? = some (.cells (blkD D) t (0, 0))) (hr : RdD w p sCap src) (hn : n = src.length)
    (hfit : off + dLen ≤ D.length)
    (h : wpList Tryd.prog ops Q rest (a.put o.dst (goInt ((min src.length dLen : Nat) : Int))) (w.setRow g (blkD (D.take off ++ (src.take dLen ++ D.drop (off + min src.length dLen)))))) : wpList Tryd.prog ops Q (o :: rest) a w := by
  subst hn
  refine wpList_plain hgd fun K hK => ?_
  have hrun := run_copyD w o.type g off dLen dCap p sCap src D hg hr hfit
  unfold Oper.wp
  generalize blkD (D.take off ++ (src.take dLen ++ D.drop (off + min src.length dLen))) = Z at hrun h
  simp [execOp, ho, resolve, invoke, builtin, hd, hs, hrun, Result.andThen]
  exact hK _ _ h
end Go.Proofs.YtbbobpjcbnfpfaaDoor
