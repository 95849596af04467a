/- pick, own of wire's laws. Condition: fewer than 2^46 bytes. -/
import Derived.Test.YtnmcbdppbpfegaaMakeCopy
import Derived.Test.YtnmcbdppbpfegaaWrMem
namespace Go.Proofs.Ytnmcbdppbpfegaa
open Go.RowKit
attribute [local go_sem high] one8 st8 cm8 b_and8 b_and8r b_and8l b_or8 b_or8r b_or8l b_xor8 b_xor8r b_xor8l b_andNot8 b_andNot8r b_andNot8l b_add8 b_add8r b_add8l b_sub8 b_sub8r b_sub8l b_mul8 b_mul8r b_mul8l b_eql8 b_eql8r b_eql8l b_neq8 b_neq8r b_neq8l b_lss8 b_lss8r b_lss8l b_leq8 b_leq8r b_leq8l b_gtr8 b_gtr8r b_gtr8l b_geq8 b_geq8r b_geq8l b_quo8r b_rem8r b_shl8r b_shr8r b_shl8l b_shr8l u_xor8 g_eql8 g_neq8 g_eql8' g_neq8' one32 st32 cm32 b_and32 b_and32r b_and32l b_or32 b_or32r b_or32l b_xor32 b_xor32r b_xor32l b_andNot32 b_andNot32r b_andNot32l b_add32 b_add32r b_add32l b_sub32 b_sub32r b_sub32l b_mul32 b_mul32r b_mul32l b_eql32 b_eql32r b_eql32l b_neq32 b_neq32r b_neq32l b_lss32 b_lss32r b_lss32l b_leq32 b_leq32r b_leq32l b_gtr32 b_gtr32r b_gtr32l b_geq32 b_geq32r b_geq32l b_quo32r b_rem32r b_shl32r b_shr32r b_shl32l b_shr32l u_xor32 g_eql32 g_neq32 g_eql32' g_neq32' one64 st64 cm64 b_and64 b_and64r b_and64l b_or64 b_or64r b_or64l b_xor64 b_xor64r b_xor64l b_andNot64 b_andNot64r b_andNot64l b_add64 b_add64r b_add64l b_sub64 b_sub64r b_sub64l b_mul64 b_mul64r b_mul64l b_eql64 b_eql64r b_eql64l b_neq64 b_neq64r b_neq64l b_lss64 b_lss64r b_lss64l b_leq64 b_leq64r b_leq64l b_gtr64 b_gtr64r b_gtr64l b_geq64 b_geq64r b_geq64l b_quo64r b_rem64r b_shl64r b_shr64r b_shl64l b_shr64l u_xor64 g_eql64 g_neq64 g_eql64' g_neq64' c_u8_u8 c_u8_u32 c_u8_u64 c_i_u8 c_u32_u8 c_u32_u32 c_u32_u64 c_i_u32 c_u64_u8 c_u64_u32 c_u64_u64 c_i_u64 c_u8_i c_u32_i
attribute [local go_sem ↓] ce8 ce32 ce64
attribute [local go_sem ↓] sliced_slp
/-- Which of n things the number c speaks of. -/
def pk (c n : Int) : Nat := ((if c < 0 then -(c + 1) else c) % n).toNat
theorem pk_lt (c n : Int) (hn : 0 < n) : (pk c n : Int) < n := by
  unfold pk
  have h2 := Int.emod_nonneg (if c < 0 then -(c + 1) else c) (show n ≠ 0 by omega)
  have h3 := Int.emod_lt_of_pos (if c < 0 then -(c + 1) else c) hn
  omega
theorem pick_any (c n : Int) (w : World) (h0 : -9223372036854775808 ≤ c) (h1 : c ≤ 9223372036854775807) (hn : 0 < n) (hn1 : n ≤ 9223372036854775807) :
    Calls Try.prog 12 #[.int .i64 c, .int .i64 n] w fun e w' => e = .returned (.int .i64 (pk c n)) ∧ w = w' := by
  unfold pk
  by_cases hc : c < 0
  · have hd : decide (c < 0) = true := by simpa using hc
    rw [if_pos hc]
    go_enter Try.func12, Try.ntmps12
    go_wp2_with fail
    go_ret
    have e1 : -(c + 1).tmod n = (-(c + 1)) % n := by rw [← Int.neg_tmod, Int.tmod_eq_emod_of_nonneg (by omega)]
    have h2 := Int.emod_nonneg (-(c + 1)) (show n ≠ 0 by omega)
    refine ⟨?_, rfl⟩
    show Ending.returned (Value.int .i64 (-(c + 1).tmod n)) = _
    rw [e1, Int.toNat_of_nonneg h2]
  · have hd : decide (c < 0) = false := by simpa using hc
    rw [if_neg hc]
    go_enter Try.func12, Try.ntmps12
    go_wp2_with fail
    go_ret
    have h2 := Int.emod_nonneg c (show n ≠ 0 by omega)
    refine ⟨?_, rfl⟩
    show Ending.returned (Value.int .i64 (c % n)) = Ending.returned (Value.int .i64 (max (c % n) 0))
    rw [Int.max_eq_left h2]
theorem own_any (p : Option Addr) (cap : Nat) (a : List UInt8) (w : World) (ha : Rd V8 w p cap a) (hd : a.length ≤ 70368744177664) :
    Calls Try.prog 10 #[.slice p a.length cap] w fun e w' => e = .returned (.slice (some ⟨w.heap.size, 0, none⟩) a.length a.length) ∧ w'.heap[w.heap.size]? = some (.cells (a.map V8).toArray 5 (0, 0)) ∧ Mod [] w w' := by
  go_enter Try.func10, Try.ntmps10
  have HA := Lib.hid ha
  clear ha
  go_wp2_with (first
    | (at_make; refine wpList_make8 rfl _ _ rfl a.length _ rfl rfl rfl (by omega) ?_)
    | (with_reducible refine froz_copy _ _ rfl ?_))
  unfold Froz
  refine wpList_copy8 rfl _ _ rfl w.heap.size 0 a.length a.length p a.length cap a (zeros a.length) rfl rfl (hp_new _ _ _ rfl) (HA.out.mod0 ((Mod.refl [] w).alloc _)) rfl (by simp [zeros_length]) ?_
  go_wp2
  go_ret
  refine ⟨rfl, ?_, ((Mod.refl [] w).alloc _).setRow (.inr (Nat.le_refl _)) _⟩
  rw [hp_setRow (hp_new _ _ _ rfl)]
  simp [zeros_length]
end Go.Proofs.Ytnmcbdppbpfegaa
