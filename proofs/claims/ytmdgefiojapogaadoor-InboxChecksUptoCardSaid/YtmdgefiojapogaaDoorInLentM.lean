/- lend and unchanged of inbox's laws. Condition: at most 2^40 bytes. -/
import Derived.Test.YtmdgefiojapogaaDoorInLinks
import Derived.Test.YtmdgefiojapogaaDoorInForkM
import Derived.Laws.MakeOwn
namespace Go.Proofs.YtmdgefiojapogaaDoor
open Go.RowKit
attribute [local go_sem high] one8 st8 cm8 b_and8 b_and8r b_and8l b_or8 b_or8r b_or8l b_xor8 b_xor8r b_xor8l b_andNot8 b_andNot8r b_andNot8l b_add8 b_add8r b_add8l b_sub8 b_sub8r b_sub8l b_mul8 b_mul8r b_mul8l b_eql8 b_eql8r b_eql8l b_neq8 b_neq8r b_neq8l b_lss8 b_lss8r b_lss8l b_leq8 b_leq8r b_leq8l b_gtr8 b_gtr8r b_gtr8l b_geq8 b_geq8r b_geq8l b_quo8r b_rem8r b_shl8r b_shr8r b_shl8l b_shr8l u_xor8 g_eql8 g_neq8 g_eql8' g_neq8' one32 st32 cm32 b_and32 b_and32r b_and32l b_or32 b_or32r b_or32l b_xor32 b_xor32r b_xor32l b_andNot32 b_andNot32r b_andNot32l b_add32 b_add32r b_add32l b_sub32 b_sub32r b_sub32l b_mul32 b_mul32r b_mul32l b_eql32 b_eql32r b_eql32l b_neq32 b_neq32r b_neq32l b_lss32 b_lss32r b_lss32l b_leq32 b_leq32r b_leq32l b_gtr32 b_gtr32r b_gtr32l b_geq32 b_geq32r b_geq32l b_quo32r b_rem32r b_shl32r b_shr32r b_shl32l b_shr32l u_xor32 g_eql32 g_neq32 g_eql32' g_neq32' one64 st64 cm64 b_and64 b_and64r b_and64l b_or64 b_or64r b_or64l b_xor64 b_xor64r b_xor64l b_andNot64 b_andNot64r b_andNot64l b_add64 b_add64r b_add64l b_sub64 b_sub64r b_sub64l b_mul64 b_mul64r b_mul64l b_eql64 b_eql64r b_eql64l b_neq64 b_neq64r b_neq64l b_lss64 b_lss64r b_lss64l b_leq64 b_leq64r b_leq64l b_gtr64 b_gtr64r b_gtr64l b_geq64 b_geq64r b_geq64l b_quo64r b_rem64r b_shl64r b_shr64r b_shl64l b_shr64l u_xor64 g_eql64 g_neq64 g_eql64' g_neq64' c_u8_u8 c_u8_u32 c_u8_u64 c_i_u8 c_u32_u8 c_u32_u32 c_u32_u64 c_i_u32 c_u64_u8 c_u64_u32 c_u64_u64 c_i_u64 c_u8_i c_u32_i
attribute [local go_sem ↓] ce8 ce32 ce64
attribute [local go_sem ↓] sliced_slp cv_byte
/-- What stands behind a body that is lent. -/
def tail8 (k : Nat) : Bs := (List.range k).map fun j => UInt8.ofNat (130 + j)
theorem tail8_length (k : Nat) : (tail8 k).length = k := by simp [tail8]
theorem tail8_succ (k : Nat) : tail8 (k + 1) = tail8 k ++ [UInt8.ofNat (130 + k)] := by simp [tail8, List.range_succ]
theorem byteOf_tail (k : Nat) (hk : k < 8) : byteOf ((130 + k : Nat) : Int) = UInt8.ofNat (130 + k) := by
  unfold byteOf
  congr 1
  omega
theorem zeros_consL (z : Nat) : zeros (z + 1) = 0 :: zeros z := by simp [zeros, List.replicate_succ]
theorem lend_step (a : Bs) (k : Nat) (hk : k < 8) : (a ++ tail8 k ++ zeros (8 - k)).set (a.length + k) (UInt8.ofNat (130 + k)) = a ++ tail8 (k + 1) ++ zeros (8 - (k + 1)) := by
  rw [List.set_append_right _ _ (by simp [tail8_length]), tail8_succ]
  obtain ⟨z, hz⟩ : ∃ z, 8 - k = z + 1 := ⟨7 - k, by omega⟩
  rw [hz, zeros_consL, show 8 - (k + 1) = z by omega]
  simp [tail8_length]
theorem lend_any (p : Option Addr) (cap n : Nat) (a : Bs) (w : World) (hn : n = a.length) (ha : Rd V8 w p cap a) (hd : n ≤ 1099511627776) :
    Calls Tryd.prog 10 #[.slice p n cap] w fun e w' => e = .returned (.slice (some ⟨w.heap.size, 0, none⟩) (n + 8) (n + 8)) ∧ w'.heap[w.heap.size]? = some (.cells ((a ++ tail8 8).map V8).toArray 5 (0, 0)) ∧ Mod [] w w' := by
  go_enter Tryd.func10, Tryd.ntmps10
  have HA := Lib.hid ha
  have HN := Lib.hid hn
  clear ha hn
  go_wp2_with (first
    | (at_make; refine wpList_make8 rfl _ _ rfl (n + 8) _ rfl rfl (by omega) (by omega) ?_)
    | (with_reducible refine froz_copy _ _ rfl ?_))
  unfold Froz
  refine wpList_copy8 rfl _ _ rfl w.heap.size 0 (n + 8) (n + 8) p n cap a (zeros (n + 8)) rfl rfl (hp_new _ _ _ rfl) (HA.out.mod0 ((Mod.refl [] w).alloc _)) HN.out (by simp [zeros_length]) ?_
  have e : (zeros (n + 8)).take 0 ++ (a.take (n + 8) ++ (zeros (n + 8)).drop (0 + min a.length (n + 8))) = a ++ zeros 8 := by
    rw [List.take_zero, List.nil_append, HN.out, List.take_of_length_le (by omega), show 0 + min a.length (a.length + 8) = a.length by omega]
    simp [zeros]
  rw [e]
  refine abs_w (C := fun W => wpList _ _ _ _ _ W) (fun W => W.heap[w.heap.size]? = some (.cells ((a ++ zeros 8).map V8).toArray 5 (0, 0)) ∧ Mod [] w W) ⟨hp_setRow (hp_new _ _ _ rfl), ((Mod.refl [] w).alloc _).setRow (.inr (Nat.le_refl _)) _⟩ ?_
  rintro W ⟨hb0, hm0⟩
  have HB := Lib.hid hb0
  clear hb0 e
  go_wp2_with fail
  go_loopw [4] (fun v wr => ∃ k : Nat, k ≤ 8 ∧ v = .int .i64 ((n : Int) + k) ∧ wr.heap[w.heap.size]? = some (.cells ((a ++ tail8 k ++ zeros (8 - k)).map V8).toArray 5 (0, 0)) ∧ Mod [] w wr) (fun v _ => (n + 8) - (intOf v).toNat)
  case atStart => exact ⟨0, by omega, by simp, by simpa [tail8] using HB.out, hm0⟩
  case round =>
    clear HB hm0
    obtain ⟨k, hk, rfl, hb, hm⟩ := hrel
    have HB := Lib.hid hb
    have HM := Lib.hid hm
    clear hb hm
    by_cases hlt : k < 8
    · obtain ⟨j, hj⟩ : ∃ j, j = n + k := ⟨_, rfl⟩
      have hjz : (n : Int) + (k : Int) = (j : Int) := by omega
      have hjl : j < n + 8 := by omega
      have hc : wr.cell? ⟨w.heap.size, j, none⟩ = some (V8 ((a ++ tail8 k ++ zeros (8 - k)).getD j 0)) := by
        rw [cell_blk HB.out]
        simpa using cell_map V8 (a ++ tail8 k ++ zeros (8 - k)) j 0 (by simp [tail8_length, zeros_length]; have := HN.out; omega)
      have hf : wr.frozen? ⟨w.heap.size, j, none⟩ = false := frozen_blk HB.out j
      rw [hjz]
      have HJ := Lib.hid hj
      have HJZ := Lib.hid hjz
      have hsub : (130 + (j : Int) - (n : Int) : Int) = ((130 + k : Nat) : Int) := by omega
      clear hj hjz
      go_wp2_with fail
      go_roundw
      case rel =>
        have hjz := HJZ.out
        refine ⟨k + 1, by omega, by go_num, ?_, HM.out.setCell (.inr (Nat.le_refl _)) _⟩
        have h := hp_sc (j := j) (v := V8 (UInt8.ofNat (130 + k))) HB.out
        rw [map_set, HJ.out, HN.out, lend_step a k hlt] at h
        rw [show ((130 : Int) + (k : Int)) = ((130 + k : Nat) : Int) by omega, byteOf_tail k hlt, HJ.out, HN.out]
        exact h
      case measure => have hjz := HJZ.out; simp [intOf]; omega
    · have hkk : k = 8 := by omega
      have HK := Lib.hid hkk
      have hd1 : decide ((n : Int) + (k : Int) < (n : Int) + 8) = false := by simp; omega
      clear hkk
      go_wp2_with fail
      go_ret
      refine ⟨rfl, ?_, HM.out⟩
      have h := HB.out
      rw [HK.out] at h
      simpa [zeros] using h
/-- Every byte turned over. -/
def xorB (l : Bs) : Bs := l.map (· ^^^ 255)
theorem xorB_length (l : Bs) : (xorB l).length = l.length := by simp [xorB]
theorem xor_step (l : Bs) (i : Nat) (x : UInt8) (h : l[i]? = some x) : (xorB (l.take i) ++ l.drop i).set i (x ^^^ 255) = xorB (l.take (i + 1)) ++ l.drop (i + 1) := by
  have hi := (List.getElem?_eq_some_iff.1 h).1
  have hl : (xorB (l.take i)).length = i := by rw [xorB_length, List.length_take_of_le (by omega)]
  rw [List.set_append_right _ _ (by omega), hl, Nat.sub_self, List.drop_eq_getElem_cons hi, List.set_cons_zero, List.take_add_one, h]
  simp [xorB]
theorem unchanged_any (g : Nat) (p : Option Addr) (cap n m : Nat) (a : Bs) (w : World) (hn : n = a.length) (hm : m = n + 8) (hg : w.heap[g]? = some (.cells ((a ++ tail8 8).map V8).toArray 5 (0, 0))) (ha : Rd V8 w p cap a) (hoff : a ≠ [] → Off p [g]) (hd : n ≤ 1099511627776) :
    Calls Tryd.prog 17 #[.slice (some ⟨g, 0, none⟩) m m, .slice p n cap] w fun e w' => e = .returned (.bool true) ∧ w'.heap[g]? = some (.cells ((xorB (a ++ tail8 8)).map V8).toArray 5 (0, 0)) ∧ Mod [g] w w' := by
  subst hm
  have HA := Lib.hid ha
  have HN := Lib.hid hn
  have HO := Lib.hid hoff
  have HG := Lib.hid hg
  clear ha hn hoff hg
  go_enter Tryd.func17, Tryd.ntmps17
  go_wp2_with fail
  go_loopw [5] (fun v wr => ∃ i : Nat, i ≤ n + 8 ∧ v = .int .i64 i ∧ wr.heap[g]? = some (.cells ((xorB ((a ++ tail8 8).take i) ++ (a ++ tail8 8).drop i).map V8).toArray 5 (0, 0)) ∧ Mod [g] w wr) (fun v _ => (n + 8) - (intOf v).toNat)
  case atStart => exact ⟨0, by omega, rfl, by simpa [xorB] using HG.out, Mod.refl _ _⟩
  case round =>
    clear HG
    obtain ⟨i, hi, rfl, hb, hm⟩ := hrel
    have HB := Lib.hid hb
    have HM := Lib.hid hm
    clear hb hm
    by_cases hlt : i < n + 8
    · obtain ⟨F, hF⟩ : ∃ F, F = a ++ tail8 8 := ⟨_, rfl⟩
      have hFl : F.length = n + 8 := by rw [hF, List.length_append, tail8_length, HN.out]
      rw [← hF] at HB
      obtain ⟨x, hx⟩ : ∃ x, F[i]? = some x := ⟨F[i]'(by omega), List.getElem?_eq_getElem _⟩
      have hcur : (xorB (F.take i) ++ F.drop i)[i]? = some x := by
        have hl : (xorB (F.take i)).length = i := by rw [xorB_length, List.length_take_of_le (by omega)]
        rw [List.getElem?_append_right (by omega), hl, Nat.sub_self, List.getElem?_drop, Nat.add_zero, hx]
      have hc : wr.cell? ⟨g, i, none⟩ = some (V8 x) := by
        rw [cell_blk HB.out]
        rw [List.getElem?_toArray, List.getElem?_map, hcur]; rfl
      have hf : wr.frozen? ⟨g, i, none⟩ = false := frozen_blk HB.out i
      have HX := Lib.hid hx
      have HF := Lib.hid hF
      by_cases hin : i < n
      · have hax : a[i]? = some x := by rw [hF, List.getElem?_append_left (by rw [← HN.out]; exact hin)] at hx; exact hx
        obtain ⟨b1, o1, hp, hc1⟩ := (HA.out.mod HM.out HO.out).cell i x hax
        subst hp
        clear hF hFl hx hcur hax
        go_wp2_with fail
        go_roundw
        case rel =>
          refine ⟨i + 1, by omega, by go_num, ?_, HM.out.setCell (.inl (by simp)) _⟩
          have h := hp_sc (j := i) (v := V8 (x ^^^ 255)) HB.out
          rw [map_set, xor_step F i x HX.out] at h
          rw [← HF.out]
          exact h
        case measure => simp [intOf]; omega
      · obtain ⟨k, hk⟩ : ∃ k, i = n + k := ⟨i - n, by omega⟩
        have hk8 : k < 8 := by omega
        have hxk : x = byteOf (130 + (i : Int) - (n : Int)) := by
          rw [show (130 + (i : Int) - (n : Int)) = ((130 + k : Nat) : Int) by omega, byteOf_tail k hk8]
          rw [hF, List.getElem?_append_right (by rw [← HN.out]; omega), ← HN.out, hk, Nat.add_sub_cancel_left] at hx
          unfold tail8 at hx
          rw [List.getElem?_map, List.getElem?_range hk8] at hx
          injection hx with hx
          exact hx.symm
        obtain ⟨y, hy⟩ : ∃ y, y = byteOf (130 + (i : Int) - (n : Int)) := ⟨_, rfl⟩
        rw [← hy] at hxk
        subst hxk
        have hy2 : byteOf (130 + (i : Int) - (n : Int)) = x := hy.symm
        clear hF hFl hx hcur hk hk8 hy
        go_wp2_with fail
        go_roundw
        case rel =>
          refine ⟨i + 1, by omega, by go_num, ?_, HM.out.setCell (.inl (by simp)) _⟩
          have h := hp_sc (j := i) (v := V8 (x ^^^ 255)) HB.out
          rw [map_set, xor_step F i x HX.out] at h
          rw [← HF.out]
          exact h
        case measure => simp [intOf]; omega
    · have hin : i = n + 8 := by omega
      have HEND := Lib.hid (show wr.heap[g]? = some (.cells ((xorB (a ++ tail8 8)).map V8).toArray 5 (0, 0)) from by
        have h := HB.out
        have hl : (a ++ tail8 8).length = n + 8 := by rw [List.length_append, tail8_length, HN.out]
        rw [hin, List.take_of_length_le (by omega), List.drop_of_length_le (by omega), List.append_nil] at h
        exact h)
      have hd1 : decide ((i : Int) < (n : Int) + 8) = false := by simp; omega
      go_wp2_with fail
      go_ret
      exact ⟨rfl, HEND.out, HM.out⟩
end Go.Proofs.YtmdgefiojapogaaDoor
namespace Go.Proofs.YtmdgefiojapogaaDoor
open Go.RowKit
/-- The cells of a row of entries. -/
def blkE (l : List Ev) : Array Value := (l.flatMap evc).toArray
theorem blkE_size (l : List Ev) : (blkE l).size = l.length * 49 := by unfold blkE; rw [List.size_toArray, length_flatMap_const evc 49 evc_len]
def zeroEv : Ev := ⟨zeroEn, zeroEn_ln⟩
theorem flat_setE : ∀ (l : List Ev) (j : Nat) (x : Ev), j < l.length → (l.set j x).flatMap evc = (l.flatMap evc).take (j * 49) ++ (evc x ++ (l.flatMap evc).drop (j * 49 + 49))
  | [], j, x, h => by simp at h
  | y :: l, 0, x, _ => by
    rw [List.set_cons_zero, List.flatMap_cons, List.flatMap_cons, Nat.zero_mul, List.take_zero, Nat.zero_add, List.drop_left' (evc_len y), List.nil_append]
  | y :: l, j + 1, x, h => by
    rw [List.set_cons_succ, List.flatMap_cons, List.flatMap_cons, flat_setE l j x (by simpa using h), Nat.succ_mul]
    rw [List.take_append, List.drop_append, List.take_of_length_le (l := evc y) (by rw [evc_len]; omega), List.drop_of_length_le (l := evc y) (by rw [evc_len]; omega), evc_len]
    rw [show j * 49 + 49 - 49 = j * 49 by omega, show j * 49 + 49 + 49 - 49 = j * 49 + 49 by omega, List.append_assoc, List.nil_append]
theorem storeE_at {w : World} {b j : Nat} {l : List Ev} {t : TypeId} (h : w.heap[b]? = some (.cells (blkE l) t (0, 0))) (x : Ev) (hj : j < l.length) :
    (StoreO 35 (.pointer (some ⟨b, j * 49, none⟩)) (.agg x.1.cells.toArray)).run Tryd.prog w = .ok () (w.setRow b (blkE (l.set j x))) := by
  have h1 : x.1.cells.toArray.size = 49 := by rw [List.size_toArray]; exact evc_len x
  have hs := storeO_blk (P := Tryd.prog) (ty := 35) (o := j * 49) (cells := x.1.cells.toArray) h (by rw [blkE_size, h1]; omega) (by rw [h1]; exact infoEn) (by rw [Array.all_eq_true_iff_forall_mem]; intro v hv; exact en_one x.1 v (by simpa using hv))
  have e : blkE (l.set j x) = ((blkE l).toList.take (j * 49) ++ (x.1.cells.toArray.toList ++ (blkE l).toList.drop (j * 49 + x.1.cells.toArray.size))).toArray := by
    unfold blkE
    rw [flat_setE l j x hj, h1]
    rfl
  rw [e]
  exact hs
theorem bodyE_set (l : List Ev) (j : Nat) (x : Ev) (y : SlR) (h : l[j]? = some x) : (blkE l).setIfInBounds (j * 49 + 48) y.v = blkE (l.set j ⟨x.1.wb y, x.2.wb y⟩) := by
  have hj := (List.getElem?_eq_some_iff.1 h).1
  have hl : l = l.set j x := by
    apply List.ext_getElem?
    intro k
    rw [List.getElem?_set]
    split
    · subst_vars; first | exact h | (rw [if_pos hj]; exact h)
    · rfl
  have hw := En.cells_wb x.2 y
  unfold blkE
  conv => lhs; rw [hl]
  rw [flat_setE l j x hj, flat_setE l j _ hj, List.setIfInBounds_toArray, List.set_append_right _ _ (by rw [List.length_take]; omega)]
  have ht : ((l.flatMap evc).take (j * 49)).length = j * 49 := by rw [List.length_take, length_flatMap_const evc 49 evc_len]; have : j * 49 ≤ l.length * 49 := Nat.mul_le_mul_right 49 (by omega); omega
  rw [ht, show j * 49 + 48 - j * 49 = 48 by omega, List.set_append_left _ _ (by rw [evc_len]; omega)]
  have e : (evc x).set 48 y.v = evc ⟨x.1.wb y, x.2.wb y⟩ := by
    have := congrArg Array.toList hw
    rw [List.setIfInBounds_toArray] at this
    exact this
  rw [e]
theorem zeroE_cells (n : Nat) : madeCells zeroEn.cells.toArray (n * 49) = blkE (List.replicate n zeroEv) := by
  have hz : zeroEn.cells.length = 49 := En.cells_len zeroEn_ln
  apply Array.ext
  · rw [size_madeCells, blkE_size, List.length_replicate]
  · intro i h1 h2
    have hi : i < n * 49 := by rw [size_madeCells] at h1; exact h1
    have hr : i % 49 < 49 := Nat.mod_lt _ (by omega)
    have hq : i / 49 < n := by omega
    obtain ⟨v, hv⟩ : ∃ v, zeroEn.cells[i % 49]? = some v := ⟨_, List.getElem?_eq_getElem (by omega)⟩
    have hf := flatMap_get evc 49 evc_len (List.replicate n zeroEv) (i / 49) zeroEv (i % 49) v (by simp [hq]) hv
    rw [show i / 49 * 49 + i % 49 = i by omega] at hf
    have e1 : (blkE (List.replicate n zeroEv))[i] = v := by
      have : (blkE (List.replicate n zeroEv))[i]? = some v := by unfold blkE; rw [List.getElem?_toArray]; exact hf
      rw [Array.getElem?_eq_getElem h2] at this
      exact Option.some.inj this
    have e2 : (madeCells zeroEn.cells.toArray (n * 49))[i] = v := by
      have h3 : (madeCells zeroEn.cells.toArray (n * 49))[i]? = some v := by
        unfold madeCells
        rw [Array.getElem?_map, Array.getElem?_range, if_pos hi, Option.map_some, List.size_toArray, hz]
        have : zeroEn.cells.toArray[i % 49]? = some v := by rw [List.getElem?_toArray]; exact hv
        rw [getElem!_def, this]
      rw [Array.getElem?_eq_getElem h1] at h3
      exact Option.some.inj h3
    rw [e1, e2]
theorem wpList_makeE {ops : Array Oper} {rest : List Oper} {o : Oper} {a : Act} {Q : Exit → Act → World → Prop} {w : World} (hgd : o.guard = none) (l c : Operand) (ho : o.op = .makeSlice 25 l c) (n : Nat) (C : Int)
    (hl : a.eval l = .int .i64 C) (hc : a.eval c = .int .i64 C) (hC : C = n) (hn : n ≤ 4294967296)
    (h : wpList Tryd.prog ops Q rest (a.put o.dst (.slice (some ⟨w.heap.size, 0, none⟩) n n)) (w.alloc (.cells (blkE (List.replicate n zeroEv)) 35))) : wpList Tryd.prog ops Q (o :: rest) a w := by
  obtain ⟨i0, hi, hz0, hz1, hz2⟩ := info_parts infoEnZ
  subst hC
  have hrun := run_make (P := Tryd.prog) w 25 35 i0 (.agg zeroEn.cells.toArray) Tryd.underlying25 hi hz0 .i64 .i64 n n (by omega) (by omega) (by rw [hz2]; omega) (by omega)
  rw [hz1, Int.toNat_natCast, show (Value.agg zeroEn.cells.toArray).cells = zeroEn.cells.toArray from rfl, zeroE_cells] at hrun
  refine wpList_plain hgd fun K hK => ?_
  unfold Oper.wp
  simp [execOp, ho, hl, hc, hrun, Result.andThen]
  exact hK _ _ (by simpa using h)
/-- An entry and the block in which its body is lent. -/
abbrev Tr := Ev × Nat
def lent1 (t : Tr) (d : Bs) : Ev := ⟨t.1.1.wb ⟨some ⟨t.2, 0, none⟩, t.1.1.body.d.length + 8, d⟩, t.1.2.wb _⟩
def slv (t : Tr) : Value := .slice (some ⟨t.2, 0, none⟩) (t.1.1.body.d.length + 8) (t.1.1.body.d.length + 8)
def bodyAt (i j : Nat) (t : Tr) : Bs := if j < i then xorB t.1.1.body.d else t.1.1.body.d
def fullAt (i j : Nat) (t : Tr) : Bs := bodyAt i j t ++ (if j < i then xorB (tail8 8) else tail8 8)
theorem bodyAt_len (i j : Nat) (t : Tr) : (bodyAt i j t).length = t.1.1.body.d.length := by unfold bodyAt; split; exact xorB_length _; rfl
theorem lent1_cells (t : Tr) (d : Bs) (h : d.length = t.1.1.body.d.length) : evc (lent1 t d) = evc (lent1 t t.1.1.body.d) := by
  unfold evc lent1 En.cells En.wb SlR.v
  simp only [h]
/-- The entries with their bodies lent, the first i of them turned over. -/
def cur (i : Nat) (ts : List Tr) : List Ev := ts.mapIdx fun j t => lent1 t (bodyAt i j t)
theorem cur_len (i : Nat) (ts : List Tr) : (cur i ts).length = ts.length := by simp [cur]
theorem cur_get (i : Nat) (ts : List Tr) (j : Nat) : (cur i ts)[j]? = ts[j]?.map fun t => lent1 t (bodyAt i j t) := by simp [cur]
theorem cur_zero (ts : List Tr) : cur 0 ts = ts.map fun t => lent1 t t.1.1.body.d := by
  apply List.ext_getElem?
  intro j
  rw [cur_get, List.getElem?_map]
  simp [bodyAt]
theorem cur_cells (i : Nat) (ts : List Tr) : (cur i ts).flatMap evc = (cur 0 ts).flatMap evc := by
  rw [List.flatMap_def, List.flatMap_def]
  congr 1
  apply List.ext_getElem?
  intro j
  rw [List.getElem?_map, List.getElem?_map, cur_get, cur_get]
  cases ts[j]? with
  | none => rfl
  | some t =>
    simp only [Option.map_some]
    rw [lent1_cells t _ (bodyAt_len i j t), lent1_cells t _ (bodyAt_len 0 j t)]
abbrev OwnSl (w : World) (B : Nat) (v : Value) (ts : List Tr) : Prop := OwnN 27 1 (fun t : Tr => [slv t]) w B v ts
/-- How it stands in memory. -/
structure Sit (w : World) (B b : Nat) (v : Value) (i : Nat) (ts : List Tr) (rest : List Ev) : Prop where
  full : w.heap[b]? = some (.cells (blkE (cur i ts ++ rest)) 35 (0, 0))
  row : OwnSl w B v ts
  lent : ∀ (j : Nat) (t : Tr), ts[j]? = some t → w.heap[t.2]? = some (.cells ((fullAt i j t).map V8).toArray 5 (0, 0))
  base : B ≤ b
  bases : ∀ t ∈ ts, B ≤ t.2
  inj : ∀ (j k : Nat) (t u : Tr), ts[j]? = some t → ts[k]? = some u → j ≠ k → t.2 ≠ u.2
namespace Sit
variable {a w : World} {B b : Nat} {v : Value} {i : Nat} {ts : List Tr} {rest : List Ev}
theorem mod0 (h : Sit a B b v i ts rest) (m : Mod [] a w) : Sit w B b v i ts rest :=
  ⟨m.get0 h.full, h.row.mod0 m, fun j t ht => m.get0 (h.lent j t ht), h.base, h.bases, h.inj⟩
theorem ents (h : Sit w B b v i ts rest) (c : Nat) (hc : ts.length ≤ c) (hs : ts.length ≤ 1048577) : Ents w (some ⟨b, 0, none⟩) c (cur i ts) := by
  refine ⟨RdN.of_blk h.full (fun j u hj => ?_) (by rw [cur_len]; exact hc), fun x hx => ?_, by rw [cur_len]; exact hs⟩
  · unfold blkE
    rw [Nat.zero_add, List.getElem?_toArray, List.flatMap_append, List.getElem?_append_left (List.getElem?_eq_some_iff.1 hj).1]
    exact hj
  · obtain ⟨j, hj, rfl⟩ := List.getElem_of_mem hx
    have hj2 : j < ts.length := by rw [cur_len] at hj; exact hj
    have ht : ts[j]? = some ts[j] := List.getElem?_eq_getElem hj2
    have e : (cur i ts)[j] = lent1 ts[j] (bodyAt i j ts[j]) := by
      have := cur_get i ts j
      rw [List.getElem?_eq_getElem hj, ht] at this
      exact Option.some.inj this
    rw [e]
    show Rd V8 w (some ⟨ts[j].2, 0, none⟩) (ts[j].1.1.body.d.length + 8) (bodyAt i j ts[j])
    refine Rd.of_blk (h.lent j _ ht) (fun k u hk => ?_) (by rw [bodyAt_len]; omega)
    unfold fullAt
    rw [Nat.zero_add, List.getElem?_toArray, List.map_append, List.getElem?_append_left (List.getElem?_eq_some_iff.1 hk).1]
    exact hk
theorem turn (h : Sit a B b v i ts rest) (t : Tr) (ht : ts[i]? = some t) (hg : w.heap[t.2]? = some (.cells ((xorB (t.1.1.body.d ++ tail8 8)).map V8).toArray 5 (0, 0))) (m : Mod [t.2] a w) : Sit w B b v (i + 1) ts rest := by
  have hbt : a.heap[t.2]? = some (.cells ((fullAt i i t).map V8).toArray 5 (0, 0)) := h.lent i t ht
  refine ⟨?_, h.row.mod m (fun x hx => ?_), fun j u hu => ?_, h.base, h.bases, h.inj⟩
  · have e : blkE (cur (i + 1) ts ++ rest) = blkE (cur i ts ++ rest) := by
      unfold blkE
      rw [List.flatMap_append, List.flatMap_append, cur_cells (i + 1), cur_cells i]
    rw [e]
    refine m.get h.full (fun hx => ?_)
    rw [List.mem_singleton] at hx
    have := h.full
    rw [hx, hbt] at this
    injection this with this
    injection this with _ h2 _
    exact absurd h2 (by decide)
  · rw [List.mem_singleton.1 hx]
    intro hx2
    obtain ⟨C, hC⟩ := h.row.type _ hx2
    rw [hbt] at hC
    injection hC with hC
    injection hC with _ h2 _
    exact absurd h2 (by decide)
  · by_cases hji : j = i
    · subst hji
      rw [ht] at hu
      injection hu with hu
      subst hu
      have e : fullAt (j + 1) j t = xorB (t.1.1.body.d ++ tail8 8) := by
        unfold fullAt bodyAt
        rw [if_pos (by omega), if_pos (by omega)]
        simp [xorB]
      rw [e]; exact hg
    · have e : fullAt (i + 1) j u = fullAt i j u := by
        unfold fullAt bodyAt
        by_cases hl : j < i
        · rw [if_pos (by omega), if_pos (by omega), if_pos hl, if_pos hl]
        · rw [if_neg (by omega), if_neg (by omega), if_neg hl, if_neg hl]
      rw [e]
      exact m.get (h.lent j u hu) (by
        rw [List.mem_singleton]
        exact h.inj j i u t hu ht hji)
end Sit
end Go.Proofs.YtmdgefiojapogaaDoor
namespace Go.Proofs.YtmdgefiojapogaaDoor
open Go.RowKit
attribute [local go_sem high] one8 st8 cm8 b_and8 b_and8r b_and8l b_or8 b_or8r b_or8l b_xor8 b_xor8r b_xor8l b_andNot8 b_andNot8r b_andNot8l b_add8 b_add8r b_add8l b_sub8 b_sub8r b_sub8l b_mul8 b_mul8r b_mul8l b_eql8 b_eql8r b_eql8l b_neq8 b_neq8r b_neq8l b_lss8 b_lss8r b_lss8l b_leq8 b_leq8r b_leq8l b_gtr8 b_gtr8r b_gtr8l b_geq8 b_geq8r b_geq8l b_quo8r b_rem8r b_shl8r b_shr8r b_shl8l b_shr8l u_xor8 g_eql8 g_neq8 g_eql8' g_neq8' one32 st32 cm32 b_and32 b_and32r b_and32l b_or32 b_or32r b_or32l b_xor32 b_xor32r b_xor32l b_andNot32 b_andNot32r b_andNot32l b_add32 b_add32r b_add32l b_sub32 b_sub32r b_sub32l b_mul32 b_mul32r b_mul32l b_eql32 b_eql32r b_eql32l b_neq32 b_neq32r b_neq32l b_lss32 b_lss32r b_lss32l b_leq32 b_leq32r b_leq32l b_gtr32 b_gtr32r b_gtr32l b_geq32 b_geq32r b_geq32l b_quo32r b_rem32r b_shl32r b_shr32r b_shl32l b_shr32l u_xor32 g_eql32 g_neq32 g_eql32' g_neq32' one64 st64 cm64 b_and64 b_and64r b_and64l b_or64 b_or64r b_or64l b_xor64 b_xor64r b_xor64l b_andNot64 b_andNot64r b_andNot64l b_add64 b_add64r b_add64l b_sub64 b_sub64r b_sub64l b_mul64 b_mul64r b_mul64l b_eql64 b_eql64r b_eql64l b_neq64 b_neq64r b_neq64l b_lss64 b_lss64r b_lss64l b_leq64 b_leq64r b_leq64l b_gtr64 b_gtr64r b_gtr64l b_geq64 b_geq64r b_geq64l b_quo64r b_rem64r b_shl64r b_shr64r b_shl64l b_shr64l u_xor64 g_eql64 g_neq64 g_eql64' g_neq64' c_u8_u8 c_u8_u32 c_u8_u64 c_i_u8 c_u32_u8 c_u32_u32 c_u32_u64 c_i_u32 c_u64_u8 c_u64_u32 c_u64_u64 c_i_u64 c_u8_i c_u32_i
attribute [local go_sem ↓] ce8 ce32 ce64
attribute [local go_sem ↓] sliced_slp loadO26 storeO26 loadOEn storeOEn buildZDg buildZEn
set_option maxRecDepth 100000 in
set_option maxHeartbeats 2000000 in
theorem rcheck_in {hf : Bs → Bs} (src dst : Bs) (hs : src.length = 32) (hd : dst.length = 32) (p : Option Addr) (c n : Nat) (es : List Ev) (w : World) (hn : n = es.length) (h : Ents w p c es) (H : Hs hf w) (R : Rf w) :
    Calls Tryd.prog 13 #[dv src, dv dst, .slice p n c] w fun e w' => e = .returned (.int .i64 (chkF hf dst none src (es.map Subtype.val))) ∧ Mod [] w w' := by
  obtain ⟨V, hV⟩ : ∃ V, V = chkF hf dst none src (es.map Subtype.val) := ⟨_, rfl⟩
  rw [← hV]
  have HV0 := Lib.hid hV
  clear hV
  have HE := Lib.hid h
  have HH := Lib.hid H
  have HN := Lib.hid hn
  have HD := Lib.hid hd
  have hn20 : n ≤ 1048577 := by rw [hn]; exact h.small
  have HB0 := Lib.hid (hp_old (o := .cells (dst.map V8).toArray 24) (hp_new w (.cells (src.map V8).toArray 24) _ rfl))
  have HB1 := Lib.hid (hp_new (w.alloc (.cells (src.map V8).toArray 24)) (.cells (dst.map V8).toArray 24) (w.heap.size + 1) (by simp))
  have M0 := Lib.hid (((Mod.refl [] w).alloc (.cells (src.map V8).toArray 24)).alloc (.cells (dst.map V8).toArray 24))
  have HLK := Lib.hid (fun (U : World) (m : Mod [] w U) => links_any (hf := hf) src hs p c n es U hn (h.mod0 m) (H.mod0 m) (R.mod0 m))
  have HS := Lib.hid hs
  clear h H R hn hs hd
  have ed : dv dst = .agg (dst.map V8).toArray := rfl
  have es0 : dv src = .agg (src.map V8).toArray := rfl
  go_enter Tryd.func13, Tryd.ntmps13
  rw [ed, es0]
  rw [es0] at HLK
  clear ed es0
  obtain ⟨ss, hss⟩ : ∃ ss, ss = (src.map V8).toArray := ⟨_, rfl⟩
  obtain ⟨ds, hds⟩ : ∃ ds, ds = (dst.map V8).toArray := ⟨_, rfl⟩
  rw [← hss] at HB0 HB1 M0 HLK ⊢
  rw [← hds] at HB0 HB1 M0 ⊢
  have HSS := Lib.hid hss
  have HDS := Lib.hid hds
  clear hss hds
  go_wp2_with fail
  obtain ⟨U, hU⟩ : ∃ U, U = (w.alloc (.cells ss 24)).alloc (.cells ds 24) := ⟨_, rfl⟩
  rw [← hU] at HB0 HB1 M0 ⊢
  obtain ⟨b0, hb0⟩ : ∃ b0, b0 = w.heap.size := ⟨_, rfl⟩
  obtain ⟨b1, hb1⟩ : ∃ b1, b1 = w.heap.size + 1 := ⟨_, rfl⟩
  rw [← hb1] at HB1 ⊢
  rw [← hb0] at HB0 ⊢
  clear hU hb0 hb1
  go_loopw [7] (fun iv wr => ∃ i : Nat, i ≤ n ∧ iv = .int .i64 i ∧ Hid (V = chkF hf dst (prevT es i) (linkI hf src (es.take i)) ((es.drop i).map Subtype.val)) ∧ Mod [] U wr) (fun iv _ => n - (intOf iv).toNat)
  case atStart => exact ⟨0, by omega, rfl, Lib.hid HV0.out, Mod.refl _ _⟩
  case round =>
    obtain ⟨i, hi, rfl, HLC, hm⟩ := hrel
    have HM := Lib.hid hm
    have MW := Lib.hid (M0.out.trans0 hm)
    clear hm
    by_cases hlt : i < n
    · obtain ⟨x, hx⟩ : ∃ x, es[i]? = some x := ⟨es[i]'(by rw [← HN.out]; exact hlt), List.getElem?_eq_getElem _⟩
      have hst := chkF_step hf dst (linkI hf src (es.take i)) es i x hx
      rw [← linkI_succ hf src es i x hx] at hst
      have HST := Lib.hid (HLC.out.trans hst)
      obtain ⟨b, o, hp, hrg⟩ := HE.out.rd.elem evc_len i x hx
      have hL1 := (enAt x.2 (range_mod MW.out hrg (by simp))).ln
      have HCK := Lib.hid (rcheck_any x.1 wr x.2)
      have HT := Lib.hid (fun (W : World) (m : Mod [] wr W) => (enAt x.2 (range_mod (MW.out.trans0 m) hrg (by simp))).c21)
      obtain ⟨cs, hcs⟩ : ∃ cs, cs = x.1.cells.toArray := ⟨_, rfl⟩
      rw [← hcs] at hL1 HCK
      have HX := Lib.hid hx
      have q0 : (0 : Int) ≤ (i : Int) := by omega
      have q1 : (i : Int) < (n : Int) := by omega
      subst hp
      clear hst hrg hx hcs
      go_wp2_with fail
      refine HCK.out.mono ?_
      rintro e w2 ⟨rfl, m2⟩
      have M2 := Lib.hid m2
      clear m2 hL1
      cases hc : x.1.fine
      · have hne : x.1.chk = 63 := by unfold En.chk; rw [hc]; rfl
        rw [hne]
        have hst := HST.out
        rw [hc] at hst
        have HST2 := Lib.hid hst
        have HMF := Lib.hid (MW.out.trans0 M2.out)
        clear hst hc hne HST
        go_wp2_with fail
        go_ret
        exact ⟨by rw [HST2.out]; rfl, HMF.out⟩
      · have hne : x.1.chk = 0 := by unfold En.chk; rw [hc]; rfl
        rw [hne]
        have hst := HST.out
        rw [hc, if_pos rfl] at hst
        have HST2 := Lib.hid hst
        clear hst hc hne HST
        obtain ⟨E, hE⟩ : ∃ E, E = earlyP (prevT es i) x.1 := ⟨_, rfl⟩
        have hst2 := HST2.out
        rw [← hE] at hst2
        have HST3 := Lib.hid hst2
        have HEE := Lib.hid hE
        have k21 := HT.out w2.drew M2.out.drew
        clear hst2 hE HST2
        go_wp2_with fail
        go_cut [38] from 23 to 38 (fun v wx => v = .bool E ∧ wx = w2.drew)
        case first =>
          by_cases hi0 : i = 0
          · subst hi0
            have he : E = false := by rw [HEE.out]; rfl
            subst he
            go_region
            go_wp2_with fail
            go_meet
            case rel => exact ⟨rfl, rfl⟩
          · obtain ⟨m, rfl⟩ : ∃ m, i = m + 1 := ⟨i - 1, by omega⟩
            obtain ⟨y, hy⟩ : ∃ y, es[m]? = some y := ⟨es[m]'(by have := HN.out; omega), List.getElem?_eq_getElem _⟩
            have he : E = decide (x.1.time < y.1.time) := by rw [HEE.out]; unfold prevT; rw [if_neg (by omega), Nat.add_sub_cancel, hy]; rfl
            obtain ⟨b', o', hp', hrg'⟩ := HE.out.rd.elem evc_len m y hy
            injection hp' with hp1
            injection hp1 with hp2 hp3 _
            subst hp2 hp3
            have k2 : w2.drew.cell? ⟨b, o + m * 49 + 21, none⟩ = some (.int .i64 y.1.time) := (enAt y.2 (range_mod (MW.out.trans0 M2.out).drew hrg' (by simp))).c21
            have he2 : decide (x.1.time < y.1.time) = E := he.symm
            have q2 : (0 : Int) < (m : Int) + 1 := by omega
            have q3 : (0 : Int) ≤ (m : Int) := by omega
            have q4 : (m : Int) < (n : Int) := by omega
            clear hy he hrg' hi0
            go_region
            all_goals
              go_wp2_with fail
              go_meet
              case rel => exact ⟨rfl, rfl⟩
        case rest =>
          obtain ⟨rfl, hwc⟩ := hcut
          have hwc2 := hwc.symm
          clear hwc
          subst hwc2
          have HMF := Lib.hid (HM.out.trans0 M2.out.drew)
          have HMG := Lib.hid (MW.out.trans0 M2.out.drew)
          clear k21
          cases E
          · have hst2 := HST3.out
            rw [if_neg (by decide)] at hst2
            have HST4 := Lib.hid hst2
            clear hst2 HST3
            go_wp2_with fail
            go_roundw
            case rel => exact ⟨i + 1, hlt, by go_num, HST4.out |> Lib.hid, HMF.out⟩
            case measure => simp [intOf]; omega
          · have hst2 := HST3.out
            rw [if_pos rfl] at hst2
            have HST4 := Lib.hid hst2
            clear hst2 HST3
            go_wp2_with fail
            go_ret
            exact ⟨by rw [HST4.out]; rfl, HMG.out⟩
    · have hin : i = n := by omega
      have hnl : ¬ ((i : Int) < (n : Int)) := by omega
      obtain ⟨L, hL⟩ : ∃ L, L = linkI hf src es := ⟨_, rfl⟩
      have hend := HLC.out
      rw [hin, HN.out, List.drop_length, List.take_length, ← hL] at hend
      have HEND := Lib.hid hend
      have hL1 := loadDv (w := wr) src HS.out (by rw [← HSS.out]; exact HM.out.get0 HB0.out)
      unfold dv at hL1
      rw [← HSS.out] at hL1
      have HLQ := Lib.hid hL
      clear hend hL
      go_wp2_with fail
      refine (HLK.out _ MW.out).mono ?_
      rintro e w2 ⟨v, ks, rfl, ho, hk, m2⟩
      obtain ⟨pk, ck, rfl, hrk, _⟩ := ho.rd
      have hkL : ks[n]? = some L := by
        have h := hk.at_ n (by rw [HN.out]; exact Nat.le_refl _)
        rw [HN.out, List.take_length, ← HLQ.out, ← HN.out] at h
        exact h
      have hkl : ks.length = n + 1 := by rw [HN.out]; exact hk.len
      have hL32 := hk.k32 L (List.mem_of_getElem? hkL)
      obtain ⟨bk, ok, hpk, _⟩ := hrk.elem dgc_len n L hkL
      subst hpk
      have l1 := fun m => loadD_at (w := w2.drewN m) (hrk.mod0 ((Mod.refl [] w2).drewN m)) (i := n) L hkL hL32
      have l2 := fun m => loadDv (w := w2.drewN m) dst HD.out (by rw [← HDS.out]; exact ((HM.out.trans0 m2).drewN m).get0 HB1.out)
      have hNE : ∀ w, (binOp .neq 24 (dv L) (dv dst)).run Tryd.prog w = .ok (.bool (!(L == dst))) w := fun w => neqDg w L dst hL32 HD.out
      have hEG := eqGuardD
      have MF := Lib.hid (MW.out.trans0 m2)
      have q0 : (0 : Int) ≤ (n : Int) := by omega
      have q1 : (n : Int) < (n : Int) + 1 := by omega
      rw [hkl]
      clear ho hk hrk hkL hkl hL32 m2 hL1
      by_cases hq : L = dst
      · have hb : (L == dst) = true := by simp [hq]
        have HQ := Lib.hid hq
        clear hq
        go_wp2_with fail
        go_quiet (fail)
        have MQ := Lib.hid (MF.out.drewN nq)
        clear l1 l2
        go_wp2_with fail
        go_ret
        exact ⟨by rw [HEND.out, List.map_nil, chkF, if_pos HQ.out]; rfl, MQ.out⟩
      · have hb : (L == dst) = false := by simp [hq]
        have HQ := Lib.hid hq
        clear hq
        go_wp2_with fail
        go_quiet (fail)
        have MQ := Lib.hid (MF.out.drewN nq)
        clear l1 l2
        go_wp2_with fail
        go_ret
        exact ⟨by rw [HEND.out, List.map_nil, chkF, if_neg HQ.out]; rfl, MQ.out⟩
end Go.Proofs.YtmdgefiojapogaaDoor
