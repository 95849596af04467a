/- The reference's Hex and ReadHex. No condition. -/
import Derived.Test.YtmjdfglidfdkaaaDoorDgRead
import Derived.Test.YtmjdfglidfdkaaaDoorRfHex
namespace Go.Proofs.YtmjdfglidfdkaaaDoor
open Go.RowKit
attribute [local go_sem high] one8 st8 cm8 b_and8 b_and8r b_and8l b_or8 b_or8r b_or8l b_xor8 b_xor8r b_xor8l b_andNot8 b_andNot8r b_andNot8l b_add8 b_add8r b_add8l b_sub8 b_sub8r b_sub8l b_mul8 b_mul8r b_mul8l b_eql8 b_eql8r b_eql8l b_neq8 b_neq8r b_neq8l b_lss8 b_lss8r b_lss8l b_leq8 b_leq8r b_leq8l b_gtr8 b_gtr8r b_gtr8l b_geq8 b_geq8r b_geq8l b_quo8r b_rem8r b_shl8r b_shr8r b_shl8l b_shr8l u_xor8 g_eql8 g_neq8 g_eql8' g_neq8' one32 st32 cm32 b_and32 b_and32r b_and32l b_or32 b_or32r b_or32l b_xor32 b_xor32r b_xor32l b_andNot32 b_andNot32r b_andNot32l b_add32 b_add32r b_add32l b_sub32 b_sub32r b_sub32l b_mul32 b_mul32r b_mul32l b_eql32 b_eql32r b_eql32l b_neq32 b_neq32r b_neq32l b_lss32 b_lss32r b_lss32l b_leq32 b_leq32r b_leq32l b_gtr32 b_gtr32r b_gtr32l b_geq32 b_geq32r b_geq32l b_quo32r b_rem32r b_shl32r b_shr32r b_shl32l b_shr32l u_xor32 g_eql32 g_neq32 g_eql32' g_neq32' one64 st64 cm64 b_and64 b_and64r b_and64l b_or64 b_or64r b_or64l b_xor64 b_xor64r b_xor64l b_andNot64 b_andNot64r b_andNot64l b_add64 b_add64r b_add64l b_sub64 b_sub64r b_sub64l b_mul64 b_mul64r b_mul64l b_eql64 b_eql64r b_eql64l b_neq64 b_neq64r b_neq64l b_lss64 b_lss64r b_lss64l b_leq64 b_leq64r b_leq64l b_gtr64 b_gtr64r b_gtr64l b_geq64 b_geq64r b_geq64l b_quo64r b_rem64r b_shl64r b_shr64r b_shl64l b_shr64l u_xor64 g_eql64 g_neq64 g_eql64' g_neq64' c_u8_u8 c_u8_u32 c_u8_u64 c_i_u8 c_u32_u8 c_u32_u32 c_u32_u64 c_i_u32 c_u64_u8 c_u64_u32 c_u64_u64 c_i_u64 c_u8_i c_u32_i
attribute [local go_sem ↓] ce8 ce32 ce64
attribute [local go_sem ↓] loadO26 storeO26
attribute [local irreducible] compress hst fin
theorem quo16 (x : UInt8) : x / (16 : UInt8) = x >>> 4 := by
  have h : ∀ n : Fin 256, UInt8.ofNat n.val / (16 : UInt8) = UInt8.ofNat n.val >>> 4 := by decide +kernel
  simpa using h ⟨x.toNat, x.toNat_lt⟩
theorem rem16 (x : UInt8) : x % (16 : UInt8) = x &&& 15 := by
  have h : ∀ n : Fin 256, UInt8.ofNat n.val % (16 : UInt8) = UInt8.ofNat n.val &&& 15 := by decide +kernel
  simpa using h ⟨x.toNat, x.toNat_lt⟩
theorem range_two (w : World) (x y : UInt8) (t : TypeId) (b : Nat) (hb : b = w.heap.size) : (w.alloc (.cells #[V8 x, V8 y] t)).rangeAt b 0 ([x, y].map V8) :=
  range_blk (hp_new w (.cells #[V8 x, V8 y] t) b hb) 0 _ (fun j v hv => by
    match j, hv with
    | 0, hv => simpa using hv
    | 1, hv => simpa using hv)
set_option maxHeartbeats 2000000 in
theorem ref_hex (d : List UInt8) (w : World) (hd : d.length = 32) :
    Calls Tryd.prog 36 #[dv d] w fun e w' => e = .returned (.string ⟨(hexOf d).toArray⟩) ∧ Mod [] w w' := by
  unfold dv
  go_enter Tryd.func36, Tryd.ntmps36
  go_wp2_with fail
  go_loopw [3, 4] (fun v i wr => ∃ k : Nat, k ≤ 32 ∧ i = .int .i64 k ∧ Own wr (w.heap.size + 1) v (hexOf (d.take k)) ∧ wr.heap[w.heap.size]? = some (.cells (d.map V8).toArray 26) ∧ Mod [] w wr) (fun _ i _ => 32 - (intOf i).toNat)
  case atStart => exact ⟨0, by omega, rfl, Own.nil _ _, hp_new _ _ _ rfl, (Mod.refl [] w).alloc _⟩
  case round =>
    obtain ⟨k, hk, rfl, hown, hbd, hm⟩ := hrel
    have HO := Lib.hid hown
    have HB := Lib.hid hbd
    have hwb : w.heap.size < wr.heap.size := lt_of_block hbd
    clear hown hbd
    by_cases hlt : k < 32
    · have hxk : d[k]? = some (d.getD k 0) := by simp [List.getElem?_eq_getElem (show k < d.length by omega)]
      obtain ⟨x, hx⟩ : ∃ x, x = d.getD k 0 := ⟨_, rfl⟩
      rw [← hx] at hxk
      have hc : wr.cell? ⟨w.heap.size, k, none⟩ = some (V8 x) := by
        rw [cell_blk HB.out]; simpa using hxk
      have hl : (hexOf (d.take k)).length ≤ 64 := by rw [hexOf_length]; simp; omega
      have q1 := quo16 x
      have q2 := rem16 x
      have C1 := Lib.hid (digit_any (x >>> 4) wr (hi4 x))
      have C2 := Lib.hid (digit_any (x &&& 15) wr (lo4 x))
      rw [← q1] at C1
      rw [← q2] at C2
      have HX := Lib.hid hxk
      have Q1 := Lib.hid q1
      have Q2 := Lib.hid q2
      clear hxk hx q1 q2
      go_wp2_with (first
        | (go_at_call 45; with_reducible refine C1.out.mono ?_; rintro e w' ⟨rfl, rfl⟩)
        | (go_at_call 45; with_reducible refine C2.out.mono ?_; rintro e w' ⟨rfl, rfl⟩)
        | (at_builtin; refine wpList_push rfl _ _ rfl (w.heap.size + 1) _ _ (HO.out.alloc _) rfl _ 0 2 2 [dg (x / 16), dg (x % 16)] rfl rfl (range_two _ _ _ _ _ rfl) (by simp; omega) (by simp; omega) ?_; intro v' w5 ho5 hg5; have HO5 := Lib.hid ho5; clear ho5))
      go_roundw
      case rel =>
        refine ⟨k + 1, by omega, by go_num, ?_, ?_, (hm.alloc _).of_grown hg5 (fun g hg => .inr (by have := HO.out.row g hg; omega))⟩
        · rw [hexOf_take_succ d k x HX.out]
          unfold hexByte
          rw [← Q1.out, ← Q2.out]
          exact HO5.out
        · exact (hg5.block w.heap.size (by simp; omega) (fun e => by have := HO.out.row _ e.symm; omega)).trans (hp_old HB.out)
      case measure => simp [intOf]; omega
    · have hkk : k = 32 := by omega
      have hd1 : decide ((k : Int) < 32) = false := by simp; omega
      have HK := Lib.hid hkk
      obtain ⟨q, c, rfl, hq, _⟩ := HO.out.rd
      have hst := str_rd hq _ rfl
      clear hkk hq
      go_wp2
      go_ret
      refine ⟨?_, hm⟩
      rw [HK.out, List.take_of_length_le (by omega)]
      rfl
end Go.Proofs.YtmjdfglidfdkaaaDoor
