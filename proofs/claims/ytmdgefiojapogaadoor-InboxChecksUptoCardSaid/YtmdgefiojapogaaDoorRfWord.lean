/- The reference's turned and word. No condition. -/
import Derived.Test.YtmdgefiojapogaaDoorOwn
import Derived.Test.YtmdgefiojapogaaDoorDgTake
namespace Go.Proofs.YtmdgefiojapogaaDoor
open Go.RowKit
attribute [local go_sem high] one8 st8 cm8 b_and8 b_and8r b_and8l b_or8 b_or8r b_or8l b_xor8 b_xor8r b_xor8l b_andNot8 b_andNot8r b_andNot8l b_add8 b_add8r b_add8l b_sub8 b_sub8r b_sub8l b_mul8 b_mul8r b_mul8l b_eql8 b_eql8r b_eql8l b_neq8 b_neq8r b_neq8l b_lss8 b_lss8r b_lss8l b_leq8 b_leq8r b_leq8l b_gtr8 b_gtr8r b_gtr8l b_geq8 b_geq8r b_geq8l b_quo8r b_rem8r b_shl8r b_shr8r b_shl8l b_shr8l u_xor8 g_eql8 g_neq8 g_eql8' g_neq8' one32 st32 cm32 b_and32 b_and32r b_and32l b_or32 b_or32r b_or32l b_xor32 b_xor32r b_xor32l b_andNot32 b_andNot32r b_andNot32l b_add32 b_add32r b_add32l b_sub32 b_sub32r b_sub32l b_mul32 b_mul32r b_mul32l b_eql32 b_eql32r b_eql32l b_neq32 b_neq32r b_neq32l b_lss32 b_lss32r b_lss32l b_leq32 b_leq32r b_leq32l b_gtr32 b_gtr32r b_gtr32l b_geq32 b_geq32r b_geq32l b_quo32r b_rem32r b_shl32r b_shr32r b_shl32l b_shr32l u_xor32 g_eql32 g_neq32 g_eql32' g_neq32' one64 st64 cm64 b_and64 b_and64r b_and64l b_or64 b_or64r b_or64l b_xor64 b_xor64r b_xor64l b_andNot64 b_andNot64r b_andNot64l b_add64 b_add64r b_add64l b_sub64 b_sub64r b_sub64l b_mul64 b_mul64r b_mul64l b_eql64 b_eql64r b_eql64l b_neq64 b_neq64r b_neq64l b_lss64 b_lss64r b_lss64l b_leq64 b_leq64r b_leq64l b_gtr64 b_gtr64r b_gtr64l b_geq64 b_geq64r b_geq64l b_quo64r b_rem64r b_shl64r b_shr64r b_shl64l b_shr64l u_xor64 g_eql64 g_neq64 g_eql64' g_neq64' c_u8_u8 c_u8_u32 c_u8_u64 c_i_u8 c_u32_u8 c_u32_u32 c_u32_u64 c_i_u32 c_u64_u8 c_u64_u32 c_u64_u64 c_i_u64 c_u8_i c_u32_i
attribute [local go_sem ↓] ce8 ce32 ce64
def tn (x : UInt32) (n : Nat) : UInt32 := x >>> UInt32.ofNat n ||| x <<< UInt32.ofNat (32 - n)
theorem tn_rotk (x : UInt32) (n : Nat) (h0 : 0 < n) (h : n < 32) : tn x n = rotk x (-(n : Int)) := by
  have e : (-(n : Int) % 32).toNat = 32 - n := by omega
  unfold tn rotk rotl
  rw [e, show 32 - (32 - n) = n by omega, UInt32.or_comm]
theorem turned_any (x : UInt32) (n : Nat) (w : World) (h0 : 0 < n) (h : n < 32) :
    Calls Tryd.prog 86 #[V32 x, .int .u32 n] w fun e w' => e = .returned (V32 (tn x n)) ∧ w = w' := by
  unfold tn
  have h1 : IntKind.u32.wrap (32 - (n : Int)) = ((32 - n : Nat) : Int) := by rw [wr32]; omega
  have h2 : ((32 - n : Nat) : Int) < 32 := by omega
  have h3 : (n : Int) < 32 := by omega
  go_enter Tryd.func86, Tryd.ntmps86
  go_wp2
  go_ret
  exact ⟨rfl, rfl⟩
theorem word_any (p : Option Addr) (cap : Nat) (l : List UInt8) (z : Int) (k : Nat) (hz : z = k) (w : World) (hr : Rd V8 w p cap l) (hk : k + 4 ≤ l.length) (hl : l.length < 140737488355329) :
    Calls Tryd.prog 85 #[.slice p l.length cap, .int .i64 z] w fun e w' => e = .returned (V32 (be (l.getD k 0) (l.getD (k + 1) 0) (l.getD (k + 2) 0) (l.getD (k + 3) 0))) ∧ Mod [] w w' := by
  subst hz
  obtain ⟨b, o, rfl, c0⟩ := hr.cell k (l.getD k 0) (by simp [List.getElem?_eq_getElem (show k < l.length by omega)])
  obtain ⟨_, _, e1, c1⟩ := hr.cell (k + 1) (l.getD (k + 1) 0) (by simp [List.getElem?_eq_getElem (show k + 1 < l.length by omega)])
  obtain ⟨_, _, e2, c2⟩ := hr.cell (k + 2) (l.getD (k + 2) 0) (by simp [List.getElem?_eq_getElem (show k + 2 < l.length by omega)])
  obtain ⟨_, _, e3, c3⟩ := hr.cell (k + 3) (l.getD (k + 3) 0) (by simp [List.getElem?_eq_getElem (show k + 3 < l.length by omega)])
  injection e1 with e1; injection e1 with e1 e1'; subst e1 e1'
  injection e2 with e2; injection e2 with e2 e2'; subst e2 e2'
  injection e3 with e3; injection e3 with e3 e3'; subst e3 e3'
  go_enter Tryd.func85, Tryd.ntmps85
  go_wp2
  go_quiet (fail)
  go_wp2
  go_ret
  exact ⟨by simp [be], (Mod.refl [] w).drewN _⟩
theorem turned_lit (x : UInt32) (k : Int) (w : World) (h0 : 0 < k) (h : k < 32) :
    Calls Tryd.prog 86 #[V32 x, .int .u32 k] w fun e w' => e = .returned (V32 (rotk x (-k))) ∧ w = w' := by
  obtain ⟨n, rfl⟩ := Int.eq_ofNat_of_zero_le (show 0 ≤ k by omega)
  refine (turned_any x n w (by omega) (by omega)).mono ?_
  rintro e w' ⟨rfl, rfl⟩
  exact ⟨by rw [tn_rotk _ _ (by omega) (by omega)], rfl⟩
end Go.Proofs.YtmdgefiojapogaaDoor
