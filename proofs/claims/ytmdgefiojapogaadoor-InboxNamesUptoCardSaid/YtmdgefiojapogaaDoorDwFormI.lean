/- Number of the document's writer: a number's form. Condition: below 2^63. -/
import Derived.Test.YtmdgefiojapogaaDoorDwNumI
import Derived.Test.YtmdgefiojapogaaDoorZeros
import Derived.Test.YtmdgefiojapogaaDoorInEq
namespace Go.Proofs.YtmdgefiojapogaaDoor
open Go.RowKit
attribute [local go_sem high] one8 st8 cm8 b_and8 b_and8r b_and8l b_or8 b_or8r b_or8l b_xor8 b_xor8r b_xor8l b_andNot8 b_andNot8r b_andNot8l b_add8 b_add8r b_add8l b_sub8 b_sub8r b_sub8l b_mul8 b_mul8r b_mul8l b_eql8 b_eql8r b_eql8l b_neq8 b_neq8r b_neq8l b_lss8 b_lss8r b_lss8l b_leq8 b_leq8r b_leq8l b_gtr8 b_gtr8r b_gtr8l b_geq8 b_geq8r b_geq8l b_quo8r b_rem8r b_shl8r b_shr8r b_shl8l b_shr8l u_xor8 g_eql8 g_neq8 g_eql8' g_neq8' one32 st32 cm32 b_and32 b_and32r b_and32l b_or32 b_or32r b_or32l b_xor32 b_xor32r b_xor32l b_andNot32 b_andNot32r b_andNot32l b_add32 b_add32r b_add32l b_sub32 b_sub32r b_sub32l b_mul32 b_mul32r b_mul32l b_eql32 b_eql32r b_eql32l b_neq32 b_neq32r b_neq32l b_lss32 b_lss32r b_lss32l b_leq32 b_leq32r b_leq32l b_gtr32 b_gtr32r b_gtr32l b_geq32 b_geq32r b_geq32l b_quo32r b_rem32r b_shl32r b_shr32r b_shl32l b_shr32l u_xor32 g_eql32 g_neq32 g_eql32' g_neq32' one64 st64 cm64 b_and64 b_and64r b_and64l b_or64 b_or64r b_or64l b_xor64 b_xor64r b_xor64l b_andNot64 b_andNot64r b_andNot64l b_add64 b_add64r b_add64l b_sub64 b_sub64r b_sub64l b_mul64 b_mul64r b_mul64l b_eql64 b_eql64r b_eql64l b_neq64 b_neq64r b_neq64l b_lss64 b_lss64r b_lss64l b_leq64 b_leq64r b_leq64l b_gtr64 b_gtr64r b_gtr64l b_geq64 b_geq64r b_geq64l b_quo64r b_rem64r b_shl64r b_shr64r b_shl64l b_shr64l u_xor64 g_eql64 g_neq64 g_eql64' g_neq64' c_u8_u8 c_u8_u32 c_u8_u64 c_i_u8 c_u32_u8 c_u32_u32 c_u32_u64 c_i_u32 c_u64_u8 c_u64_u32 c_u64_u64 c_i_u64 c_u8_i c_u32_i
attribute [local go_sem ↓] ce8 ce32 ce64
attribute [local go_sem ↓] sliced_slp
/-- The last j bytes of a number, noughts ahead. -/
def lastB (n j : Nat) : List UInt8 := (zeros 8).take (8 - j) ++ (be8 n).drop (8 - j)
theorem lastB_len (n j : Nat) : (lastB n j).length = 8 := by simp only [lastB, List.length_append, List.length_take, List.length_drop, zeros_length, be8_length]; omega
theorem be8_get (n j : Nat) (hj : j < 8) : (be8 n)[7 - j]? = some (UInt8.ofNat (n / 256 ^ j)) := by
  unfold be8
  rw [List.getElem?_map, List.getElem?_range (by omega), Option.map_some, Nat.shiftRight_eq_div_pow, show 56 - 8 * (7 - j) = 8 * j by omega, Nat.pow_mul]
theorem lastB_succ (n j : Nat) (hj : j < 8) : (lastB n j).set (7 - j) (UInt8.ofNat (n / 256 ^ j)) = lastB n (j + 1) := by
  have hg := be8_get n j hj
  refine List.ext_getElem? fun i => ?_
  unfold lastB
  have hz : ((zeros 8).take (8 - j)).length = 8 - j := by rw [List.length_take, zeros_length]; omega
  have hz2 : ((zeros 8).take (8 - (j + 1))).length = 8 - (j + 1) := by rw [List.length_take, zeros_length]; omega
  rw [List.getElem?_set]
  by_cases h1 : 7 - j = i
  · subst h1
    rw [if_pos rfl, if_pos (by rw [List.length_append, hz, List.length_drop, be8_length]; omega), List.getElem?_append_right (by omega), hz2, List.getElem?_drop, show 8 - (j + 1) + (7 - j - (8 - (j + 1))) = 7 - j by omega, hg]
  · rw [if_neg h1]
    by_cases h2 : i < 7 - j
    · rw [List.getElem?_append_left (by omega), List.getElem?_append_left (by omega), List.getElem?_take, List.getElem?_take, if_pos (by omega), if_pos (by omega)]
    · rw [List.getElem?_append_right (by omega), List.getElem?_append_right (by omega), hz, hz2, List.getElem?_drop, List.getElem?_drop]
      congr 1; omega
theorem lastB_0 (n : Nat) : lastB n 0 = zeros 8 := by
  unfold lastB
  rw [List.take_of_length_le (by rw [zeros_length]; omega), List.drop_of_length_le (by rw [be8_length]; omega), List.append_nil]
theorem lastB_8 (n : Nat) : lastB n 8 = be8 n := by simp [lastB]
set_option maxRecDepth 100000 in
theorem dform_any (n : Nat) (w : World) (hn : n < 9223372036854775808) : Calls Tryd.prog 88 #[.int .i64 (n : Int)] w (CloneB w (form n)) := by
  unfold CloneB
  go_enter Tryd.func88, Tryd.ntmps88
  go_wp2_with fail
  go_loopw [4, 5] (fun mv iv wr => ∃ j m : Nat, j ≤ 8 ∧ m = n / 256 ^ j ∧ mv = .int .i64 (m : Int) ∧ iv = .int .i64 (7 - (j : Int)) ∧ wr.heap[w.heap.size]? = some (.cells ((lastB n j).map V8).toArray 137 (0, 0)) ∧ Mod [] w wr) (fun _ iv _ => (intOf iv + 1).toNat)
  case atStart => exact ⟨0, n, by omega, by simp, rfl, rfl, by rw [lastB_0]; exact hp_new _ _ _ rfl, (Mod.refl [] w).alloc _⟩
  case round =>
    obtain ⟨j, m, hj, hm, rfl, rfl, hb, hmod⟩ := hrel
    have HB := Lib.hid hb
    have HM := Lib.hid hmod
    have HMM := Lib.hid hm
    by_cases hlt : j < 8
    · obtain ⟨k, hk⟩ : ∃ k, k = 7 - j := ⟨_, rfl⟩
      have hki : 7 - (j : Int) = (k : Int) := by omega
      have hkl : k < 8 := by omega
      have hmn : m < 9223372036854775808 := by rw [hm]; exact Nat.lt_of_le_of_lt (Nat.div_le_self _ _) hn
      have hc : ∃ u, wr.cell? ⟨w.heap.size, k, none⟩ = some (V8 u) := by
        rw [cell_blk hb, List.getElem?_toArray, List.getElem?_map, List.getElem?_eq_getElem (by rw [lastB_len]; exact hkl)]
        exact ⟨_, rfl⟩
      obtain ⟨u, hu⟩ := hc
      have hf := frozen_blk hb k
      have hr8 : (m : Int).tmod 256 = ((m % 256 : Nat) : Int) := rfl
      have hq8 : (m : Int).tdiv 256 = ((m / 256 : Nat) : Int) := rfl
      have HK := Lib.hid hk
      clear hb hmod hk hm
      have hv : (Value.int .u8 ((m : Int) % 256)) = V8 (UInt8.ofNat m) := by unfold V8; rw [UInt8.toNat_ofNat']; rfl
      have HVV := Lib.hid hv
      clear hv
      go_wp2_with fail
      refine ⟨⟨j + 1, m / 256, by omega, by rw [HMM.out, Nat.div_div_eq_div_mul, Nat.pow_succ], rfl, by congr 1; omega, ?_, HM.out.setCell (p := ⟨w.heap.size, k, none⟩) (.inr (Nat.le_refl _)) _⟩, by simp only [intOf]; omega⟩
      rw [HVV.out, hp_sc HB.out, ← lastB_succ n j hlt, ← HMM.out, ← HK.out]
      simp [List.map_set]
    · have hj8 : j = 8 := by omega
      subst hj8
      rw [lastB_8] at hb
      have hr : Rd V8 wr (some ⟨w.heap.size, 0, none⟩) 8 (be8 n) := Rd.of_blk hb (fun j v hv => by simpa using hv) (by rw [be8_length]; omega)
      have HBA := dbare_any (some ⟨w.heap.size, 0, none⟩) 8 (be8 n) wr hr (by rw [be8_length]; omega)
      rw [be8_length] at HBA
      have HBB0 := Lib.hid HBA
      clear hb hmod hm hr HBA
      go_wp2_with fail
      refine HBB0.out.mono ?_
      rintro e w2 ⟨q, c, rfl, hrd, hw2⟩
      subst hw2
      have hbl := bare_length (be8 n)
      rw [be8_length] at hbl
      obtain ⟨b, hbb⟩ : ∃ b, b = bare (be8 n) := ⟨_, rfl⟩
      rw [← hbb] at hrd hbl ⊢
      have HRD := Lib.hid hrd
      have HBB := Lib.hid hbb
      have cv := cv_byte (b.length : Int)
      obtain ⟨z, hz⟩ : ∃ z, z = byteOf (b.length : Int) := ⟨_, rfl⟩
      rw [← hz] at cv
      have HZ := Lib.hid hz
      clear hrd hbb hz HBB0
      go_wp2_with (at_builtin; with_reducible refine froz_app _ _ rfl ?_)
      unfold Froz
      refine wpList_pushAll rfl _ _ rfl w2.heap.size _ [z] (one_new w2 z) rfl q b.length c b rfl rfl (HRD.out.mod0 ((Mod.refl [] w2).alloc _)) (by simp; omega) (by simp) ?_
      intro v' w' ho hg
      have HO := Lib.hid (ho.mono HM.out.size)
      have HG := Lib.hid (((Mod.refl [] w2).alloc (.cells #[V8 z] 5)).of_grown hg (fun x hx => .inr (by injection hx with hx; simp only at hx; omega)))
      have HMM3 := Lib.hid (HM.out.trans0 HG.out)
      clear ho hg cv
      go_wp2_with fail
      go_ret
      refine ⟨v', rfl, ?_, HMM3.out⟩
      have e : form n = [z] ++ b := by
        unfold form short
        rw [← HBB.out, HZ.out]
        have : byteOf (b.length : Int) = UInt8.ofNat b.length := by
          unfold byteOf
          apply UInt8.toNat_inj.1
          rw [UInt8.toNat_ofNat', UInt8.toNat_ofNat']
          omega
        rw [this]; rfl
      rw [e]
      exact HO.out
end Go.Proofs.YtmdgefiojapogaaDoor
