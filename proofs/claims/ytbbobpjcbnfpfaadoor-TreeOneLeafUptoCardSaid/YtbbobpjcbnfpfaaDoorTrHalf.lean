/- The library's bits.Len at this program; the tree's half. Condition: a number from 2 to 2^62. -/
import Derived.Shelf.Small.Bits
import Derived.Test.YtbbobpjcbnfpfaaDoorTrPure
import Derived.Test.YtbbobpjcbnfpfaaDoorRows
namespace Go.Proofs.YtbbobpjcbnfpfaaDoor
open Go.Shelf Go.RowKit
attribute [local go_sem high] one8 st8 cm8 b_and8 b_and8r b_and8l b_or8 b_or8r b_or8l b_xor8 b_xor8r b_xor8l b_andNot8 b_andNot8r b_andNot8l b_add8 b_add8r b_add8l b_sub8 b_sub8r b_sub8l b_mul8 b_mul8r b_mul8l b_eql8 b_eql8r b_eql8l b_neq8 b_neq8r b_neq8l b_lss8 b_lss8r b_lss8l b_leq8 b_leq8r b_leq8l b_gtr8 b_gtr8r b_gtr8l b_geq8 b_geq8r b_geq8l b_quo8r b_rem8r b_shl8r b_shr8r b_shl8l b_shr8l u_xor8 g_eql8 g_neq8 g_eql8' g_neq8' one32 st32 cm32 b_and32 b_and32r b_and32l b_or32 b_or32r b_or32l b_xor32 b_xor32r b_xor32l b_andNot32 b_andNot32r b_andNot32l b_add32 b_add32r b_add32l b_sub32 b_sub32r b_sub32l b_mul32 b_mul32r b_mul32l b_eql32 b_eql32r b_eql32l b_neq32 b_neq32r b_neq32l b_lss32 b_lss32r b_lss32l b_leq32 b_leq32r b_leq32l b_gtr32 b_gtr32r b_gtr32l b_geq32 b_geq32r b_geq32l b_quo32r b_rem32r b_shl32r b_shr32r b_shl32l b_shr32l u_xor32 g_eql32 g_neq32 g_eql32' g_neq32' one64 st64 cm64 b_and64 b_and64r b_and64l b_or64 b_or64r b_or64l b_xor64 b_xor64r b_xor64l b_andNot64 b_andNot64r b_andNot64l b_add64 b_add64r b_add64l b_sub64 b_sub64r b_sub64l b_mul64 b_mul64r b_mul64l b_eql64 b_eql64r b_eql64l b_neq64 b_neq64r b_neq64l b_lss64 b_lss64r b_lss64l b_leq64 b_leq64r b_leq64l b_gtr64 b_gtr64r b_gtr64l b_geq64 b_geq64r b_geq64l b_quo64r b_rem64r b_shl64r b_shr64r b_shl64l b_shr64l u_xor64 g_eql64 g_neq64 g_eql64' g_neq64' c_u8_u8 c_u8_u32 c_u8_u64 c_i_u8 c_u32_u8 c_u32_u32 c_u32_u64 c_i_u32 c_u64_u8 c_u64_u32 c_u64_u64 c_i_u64 c_u8_i c_u32_i
attribute [local go_sem ↓] ce8 ce32 ce64
/-- The shelf's numbers, in this program. -/
def lenRen : Ren where
  f := fun x => match x with
    | 125 => 81
    | 128 => 91
    | 129 => 92
    | n => n
  t := fun x => match x with
    | 3 => 3
    | 4 => 4
    | 5 => 5
    | 9 => 9
    | 46 => 115
    | 51 => 119
    | 53 => 130
    | n => n
  g := fun x => x
theorem lenLays : Lays.n125 Tryd.prog lenRen where
  mixed := rfl
  f125 := Tryd.func81
  f128 := Tryd.func91
  f129 := Tryd.func92
  t3 := Tryd.underlying3
  a3 := Tryd.isAgg3
  z3 := Tryd.sizeOf3
  v3 := Tryd.zeroValue3
  t4 := Tryd.underlying4
  a4 := Tryd.isAgg4
  z4 := Tryd.sizeOf4
  v4 := Tryd.zeroValue4
  t5 := Tryd.underlying5
  a5 := Tryd.isAgg5
  z5 := Tryd.sizeOf5
  v5 := Tryd.zeroValue5
  t9 := Tryd.underlying9
  a9 := Tryd.isAgg9
  z9 := Tryd.sizeOf9
  v9 := Tryd.zeroValue9
  t46 := Tryd.underlying115
  a46 := Tryd.isAgg115
  z46 := Tryd.sizeOf115
  v46 := Tryd.zeroValue115
  t51 := Tryd.underlying119
  a51 := Tryd.isAgg119
  z51 := Tryd.sizeOf119
  v51 := Tryd.zeroValue119
  t53 := Tryd.underlying130
  a53 := Tryd.isAgg130
  z53 := Tryd.sizeOf130
  v53 := Tryd.zeroValue130
theorem len_bits (x : Int) (w : World) (h0 : 0 ≤ x) (h1 : x ≤ 18446744073709551615) :
    Calls Tryd.prog 81 #[.int .u64 x] w fun e w' => e = .returned (.int .i64 (Lib.bitLen x.toNat)) ∧ w' = w := Any.bits_Len lenLays x w h0 h1
theorem bitLen_log2 (n : Nat) : ∀ f, n < 2 ^ f → n ≠ 0 → Lib.bitLenAux f n = Nat.log2 n + 1 := by
  induction n using Nat.strongRecOn with
  | ind n ih =>
    intro f hf h0
    cases f with
    | zero => simp at hf; omega
    | succ f =>
      rw [Lib.bitLenAux, if_neg h0, Nat.log2_def]
      by_cases h2 : 2 ≤ n
      · rw [if_pos h2, ih (n / 2) (by omega) f (by rw [Nat.pow_succ] at hf; omega) (by omega)]
        omega
      · rw [if_neg h2]
        have : n / 2 = 0 := by omega
        rw [this]
        cases f <;> simp [Lib.bitLenAux]
set_option maxRecDepth 100000 in
theorem half_any (n : Nat) (w : World) (h1 : 1 < n) (h2 : n ≤ 4611686018427387904) :
    Calls Tryd.prog 60 #[.int .i64 n] w fun e w' => e = .returned (.int .i64 (half n)) ∧ w = w' := by
  have hl : Nat.log2 (n - 1) ≤ 61 := by
    have := (Nat.log2_lt (n := n - 1) (k := 62) (by omega)).2 (by omega)
    omega
  have hlen := Lib.hid (fun w => show Calls Tryd.prog 81 #[.int .u64 ((n : Int) - 1)] w fun e w' => e = .returned (.int .i64 ((Nat.log2 (n - 1) : Int) + 1)) ∧ w' = w by
    have h := len_bits ((n : Int) - 1) w (by omega) (by omega)
    rw [show ((n : Int) - 1).toNat = n - 1 by omega, show Lib.bitLen (n - 1) = Nat.log2 (n - 1) + 1 from bitLen_log2 (n - 1) 64 (by omega) (by omega)] at h
    exact h)
  have hh : half n = 2 ^ Nat.log2 (n - 1) := rfl
  have hle : half n ≤ 4611686018427387904 := by have := half_lt n h1; omega
  obtain ⟨L, hL⟩ : ∃ L, L = Nat.log2 (n - 1) := ⟨_, rfl⟩
  rw [← hL] at hl hh hlen
  have HH := Lib.hid hh
  clear hL hh
  go_enter Tryd.func60, Tryd.ntmps60
  go_wp2_with (go_at_call 81; refine (hlen.out _).mono ?_; rintro e w' ⟨rfl, rfl⟩)
  go_ret
  have e : (2 : Int) ^ L = ((half n : Nat) : Int) := by rw [HH.out, Int.natCast_pow]; rfl
  have e2 : wrap64 ((2 : Int) ^ L) = ((half n : Nat) : Int) := by rw [e]; unfold wrap64; omega
  exact ⟨congrArg (fun z => Ending.returned (.int .i64 z)) e2, rfl⟩
end Go.Proofs.YtbbobpjcbnfpfaaDoor
