/- The reference's Sum. Conditions: as RfOf. -/
import Derived.Test.YtmdgefiojapogaaDoorDgEqI
namespace Go.Proofs.YtmdgefiojapogaaDoor
open Go.RowKit
attribute [local go_sem high] one8 st8 cm8 b_and8 b_and8r b_and8l b_or8 b_or8r b_or8l b_xor8 b_xor8r b_xor8l b_andNot8 b_andNot8r b_andNot8l b_add8 b_add8r b_add8l b_sub8 b_sub8r b_sub8l b_mul8 b_mul8r b_mul8l b_eql8 b_eql8r b_eql8l b_neq8 b_neq8r b_neq8l b_lss8 b_lss8r b_lss8l b_leq8 b_leq8r b_leq8l b_gtr8 b_gtr8r b_gtr8l b_geq8 b_geq8r b_geq8l b_quo8r b_rem8r b_shl8r b_shr8r b_shl8l b_shr8l u_xor8 g_eql8 g_neq8 g_eql8' g_neq8' one32 st32 cm32 b_and32 b_and32r b_and32l b_or32 b_or32r b_or32l b_xor32 b_xor32r b_xor32l b_andNot32 b_andNot32r b_andNot32l b_add32 b_add32r b_add32l b_sub32 b_sub32r b_sub32l b_mul32 b_mul32r b_mul32l b_eql32 b_eql32r b_eql32l b_neq32 b_neq32r b_neq32l b_lss32 b_lss32r b_lss32l b_leq32 b_leq32r b_leq32l b_gtr32 b_gtr32r b_gtr32l b_geq32 b_geq32r b_geq32l b_quo32r b_rem32r b_shl32r b_shr32r b_shl32l b_shr32l u_xor32 g_eql32 g_neq32 g_eql32' g_neq32' one64 st64 cm64 b_and64 b_and64r b_and64l b_or64 b_or64r b_or64l b_xor64 b_xor64r b_xor64l b_andNot64 b_andNot64r b_andNot64l b_add64 b_add64r b_add64l b_sub64 b_sub64r b_sub64l b_mul64 b_mul64r b_mul64l b_eql64 b_eql64r b_eql64l b_neq64 b_neq64r b_neq64l b_lss64 b_lss64r b_lss64l b_leq64 b_leq64r b_leq64l b_gtr64 b_gtr64r b_gtr64l b_geq64 b_geq64r b_geq64l b_quo64r b_rem64r b_shl64r b_shr64r b_shl64l b_shr64l u_xor64 g_eql64 g_neq64 g_eql64' g_neq64' c_u8_u8 c_u8_u32 c_u8_u64 c_i_u8 c_u32_u8 c_u32_u32 c_u32_u64 c_i_u32 c_u64_u8 c_u64_u32 c_u64_u64 c_i_u64 c_u8_i c_u32_i
attribute [local go_sem ↓] ce8 ce32 ce64
attribute [local go_sem ↓] loadO61 storeO61 loadO26 storeO26
attribute [local irreducible] compress hst laidOf fin refOf
theorem refOf_length (d : List UInt8) (n : Nat) : (refOf d n).length = 32 := by unfold refOf; exact out_length _
set_option maxRecDepth 100000 in
theorem ref_sum (p : Option Addr) (cap : Nat) (d : List UInt8) (w : World) (hr : Rd V8 w p cap d) (hd : d.length ≤ 70368744177664) (ht : TabR w) (hb : TabB w) :
    Calls Tryd.prog 37 #[.slice p d.length cap] w fun e w' => e = .returned (dv (fin d 0 0)) ∧ Mod [] w w' := by
  have HO := Lib.hid (fun (w1 : World) (hm : Mod [] w w1) (z : Int) (hz : z = ((8 * d.length : Nat) : Int)) => by
    have h := of_any p cap d (8 * d.length) w1 (hr.mod0 hm) (Nat.le_refl _) hd (TabR.mod hm ht (by simp)) (TabB.mod hm hb (by simp))
    rw [← hz, ← sum_ref] at h
    exact h)
  clear hr ht hb
  go_enter Tryd.func37, Tryd.ntmps37
  go_wp2_with (go_at_call 62; refine (HO.out _ ((Mod.refl [] w).alloc _) _ (by omega)).mono ?_; rintro e w5 ⟨rfl, hm5⟩; have HRES := Lib.hid (hm5.get0 (hp_new _ _ _ rfl)); have hS := storeDv (fin d 0 0) (fin_length _ _ _) HRES.out rfl)
  exact bodyPost_ret (results_dv rfl _ _ _ _ (fin_length _ _ _) _ rfl (hp_setRow HRES.out)) rfl ⟨rfl, (((Mod.refl [] w).alloc _).trans0 hm5).setRow (.inr (Nat.le_refl _)) _⟩
end Go.Proofs.YtmdgefiojapogaaDoor
