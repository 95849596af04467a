/- small, written to lists of lists. Condition: at most 2^20 bytes together. -/
import Derived.Test.YtmjdfglidfdkaaaDoorLawSums
import Derived.Test.YtmjdfglidfdkaaaDoorRfParts
import Derived.Test.YtmjdfglidfdkaaaDoorOwnE
namespace Go.Proofs.YtmjdfglidfdkaaaDoor
open Go.RowKit
attribute [local go_sem high] one8 st8 cm8 b_and8 b_and8r b_and8l b_or8 b_or8r b_or8l b_xor8 b_xor8r b_xor8l b_andNot8 b_andNot8r b_andNot8l b_add8 b_add8r b_add8l b_sub8 b_sub8r b_sub8l b_mul8 b_mul8r b_mul8l b_eql8 b_eql8r b_eql8l b_neq8 b_neq8r b_neq8l b_lss8 b_lss8r b_lss8l b_leq8 b_leq8r b_leq8l b_gtr8 b_gtr8r b_gtr8l b_geq8 b_geq8r b_geq8l b_quo8r b_rem8r b_shl8r b_shr8r b_shl8l b_shr8l u_xor8 g_eql8 g_neq8 g_eql8' g_neq8' one32 st32 cm32 b_and32 b_and32r b_and32l b_or32 b_or32r b_or32l b_xor32 b_xor32r b_xor32l b_andNot32 b_andNot32r b_andNot32l b_add32 b_add32r b_add32l b_sub32 b_sub32r b_sub32l b_mul32 b_mul32r b_mul32l b_eql32 b_eql32r b_eql32l b_neq32 b_neq32r b_neq32l b_lss32 b_lss32r b_lss32l b_leq32 b_leq32r b_leq32l b_gtr32 b_gtr32r b_gtr32l b_geq32 b_geq32r b_geq32l b_quo32r b_rem32r b_shl32r b_shr32r b_shl32l b_shr32l u_xor32 g_eql32 g_neq32 g_eql32' g_neq32' one64 st64 cm64 b_and64 b_and64r b_and64l b_or64 b_or64r b_or64l b_xor64 b_xor64r b_xor64l b_andNot64 b_andNot64r b_andNot64l b_add64 b_add64r b_add64l b_sub64 b_sub64r b_sub64l b_mul64 b_mul64r b_mul64l b_eql64 b_eql64r b_eql64l b_neq64 b_neq64r b_neq64l b_lss64 b_lss64r b_lss64l b_leq64 b_leq64r b_leq64l b_gtr64 b_gtr64r b_gtr64l b_geq64 b_geq64r b_geq64l b_quo64r b_rem64r b_shl64r b_shr64r b_shl64l b_shr64l u_xor64 g_eql64 g_neq64 g_eql64' g_neq64' c_u8_u8 c_u8_u32 c_u8_u64 c_i_u8 c_u32_u8 c_u32_u32 c_u32_u64 c_i_u32 c_u64_u8 c_u64_u32 c_u64_u64 c_i_u64 c_u8_i c_u32_i
attribute [local go_sem ↓] ce8 ce32 ce64
theorem total_take (xs : List SlR) (k : Nat) : total (xs.take k) ≤ total xs := by rw [← joined_length]; exact joined_take_length xs k
theorem total_take_succ (xs : List SlR) (k : Nat) (x : SlR) (h : xs[k]? = some x) : total (xs.take (k + 1)) = total (xs.take k) + x.d.length := by
  rw [← joined_length, ← joined_length, joined_take_succ xs k x h, List.length_append]
theorem total_mem (xs : List SlR) (x : SlR) (h : x ∈ xs) : x.d.length ≤ total xs := by
  obtain ⟨k, hk⟩ := List.mem_iff_getElem?.1 h
  have h1 := total_take_succ xs k x hk
  have h2 := total_take xs (k + 1)
  omega
theorem small_any (pp : Option Addr) (cp : Nat) (xs : List SlR) (w : World) (hr : Rd SlR.v w pp cp xs) (ht : total xs ≤ 1048576) (hl : xs.length < 4611686018427387904) :
    Calls Tryd.prog 17 #[.slice pp xs.length cp] w fun e w' => e = .returned (.bool true) ∧ w' = w := by
  have HR := Lib.hid hr
  clear hr
  go_enter Tryd.func17, Tryd.ntmps17
  go_wp2
  go_loopw [3, 4] (fun n v wr => ∃ k : Nat, k ≤ xs.length ∧ v = .int .i64 k ∧ n = .int .i64 (total (xs.take k) : Nat) ∧ wr = w) (fun _ v _ => xs.length - (intOf v).toNat)
  case atStart => exact ⟨0, by omega, rfl, rfl, rfl⟩
  case round =>
    obtain ⟨k, hk, rfl, rfl, rfl⟩ := hrel
    have hT := total_take xs k
    obtain ⟨t, hte⟩ : ∃ t, t = total (xs.take k) := ⟨_, rfl⟩
    rw [← hte] at hT ⊢
    have HTE := Lib.hid hte
    clear hte
    have htl : t ≤ 1048576 := by omega
    by_cases hlt : k < xs.length
    · obtain ⟨x, hxk⟩ : ∃ x, xs[k]? = some x := ⟨xs[k], List.getElem?_eq_getElem hlt⟩
      obtain ⟨b, o, rfl, hc⟩ := HR.out.cell k x hxk
      have hxl := total_mem xs x (List.mem_of_getElem? hxk)
      have hsu := Lib.hid (total_take_succ xs k x hxk)
      unfold SlR.v at hc
      clear hxk
      go_wp2
      go_roundw
      case rel => exact ⟨k + 1, by omega, by go_num, by rw [hsu.out, ← HTE.out]; go_num, by first | rfl | trivial⟩
      case measure => simp [intOf]; omega
    · have hd2 : decide ((t : Int) ≤ 1048576) = true := by simp; omega
      have hd : decide ((k : Int) < (xs.length : Int)) = false := by simp; omega
      go_wp2
      go_ret
      exact ⟨rfl, rfl⟩
end Go.Proofs.YtmjdfglidfdkaaaDoor
