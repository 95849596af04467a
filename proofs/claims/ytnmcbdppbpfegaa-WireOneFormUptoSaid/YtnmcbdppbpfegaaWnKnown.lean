/- 'known' of wire's laws: a number's form that the document tells. No condition. -/
import Derived.Test.YtnmcbdppbpfegaaRrCalls
namespace Go.Proofs.Ytnmcbdppbpfegaa
open Go.RowKit
attribute [local go_sem high] one8 st8 cm8 b_and8 b_and8r b_and8l b_or8 b_or8r b_or8l b_xor8 b_xor8r b_xor8l b_andNot8 b_andNot8r b_andNot8l b_add8 b_add8r b_add8l b_sub8 b_sub8r b_sub8l b_mul8 b_mul8r b_mul8l b_eql8 b_eql8r b_eql8l b_neq8 b_neq8r b_neq8l b_lss8 b_lss8r b_lss8l b_leq8 b_leq8r b_leq8l b_gtr8 b_gtr8r b_gtr8l b_geq8 b_geq8r b_geq8l b_quo8r b_rem8r b_shl8r b_shr8r b_shl8l b_shr8l u_xor8 g_eql8 g_neq8 g_eql8' g_neq8' one32 st32 cm32 b_and32 b_and32r b_and32l b_or32 b_or32r b_or32l b_xor32 b_xor32r b_xor32l b_andNot32 b_andNot32r b_andNot32l b_add32 b_add32r b_add32l b_sub32 b_sub32r b_sub32l b_mul32 b_mul32r b_mul32l b_eql32 b_eql32r b_eql32l b_neq32 b_neq32r b_neq32l b_lss32 b_lss32r b_lss32l b_leq32 b_leq32r b_leq32l b_gtr32 b_gtr32r b_gtr32l b_geq32 b_geq32r b_geq32l b_quo32r b_rem32r b_shl32r b_shr32r b_shl32l b_shr32l u_xor32 g_eql32 g_neq32 g_eql32' g_neq32' one64 st64 cm64 b_and64 b_and64r b_and64l b_or64 b_or64r b_or64l b_xor64 b_xor64r b_xor64l b_andNot64 b_andNot64r b_andNot64l b_add64 b_add64r b_add64l b_sub64 b_sub64r b_sub64l b_mul64 b_mul64r b_mul64l b_eql64 b_eql64r b_eql64l b_neq64 b_neq64r b_neq64l b_lss64 b_lss64r b_lss64l b_leq64 b_leq64r b_leq64l b_gtr64 b_gtr64r b_gtr64l b_geq64 b_geq64r b_geq64l b_quo64r b_rem64r b_shl64r b_shr64r b_shl64l b_shr64l u_xor64 g_eql64 g_neq64 g_eql64' g_neq64' c_u8_u8 c_u8_u32 c_u8_u64 c_i_u8 c_u32_u8 c_u32_u32 c_u32_u64 c_i_u32 c_u64_u8 c_u64_u32 c_u64_u64 c_i_u64 c_u8_i c_u32_i
attribute [local go_sem ↓] ce8 ce32 ce64
attribute [local go_sem ↓] sliced_slp
theorem wr256 : Wr.number ⟨[], 0⟩ 256 = ⟨[2, 1, 0], 0⟩ := by kernel_rfl
theorem rr256 : Rr.num ⟨[2, 1, 0], 0, 0⟩ = (⟨[2, 1, 0], 3, 0⟩, 256) := by rfl
set_option maxRecDepth 100000 in
theorem known_any (w : World) : Calls Try.prog 11 #[] w fun e w' => e = .returned (.bool true) ∧ Mod [] w w' := by
  have HN := Lib.hid (newW_any w.heap.size w (Nat.le_refl _))
  go_enter Try.func11, Try.ntmps11
  go_wp2_with fail
  refine HN.out.mono ?_
  rintro e w1 ⟨g, rfl, hg, hi1, m1⟩
  have hnu := number_any w.heap.size g _ _ w1 hi1 (by simp) 256 (by decide)
  rw [wr256] at hnu
  have HNU := Lib.hid hnu
  have B1 := hi1.foot_base
  have M1 := Lib.hid m1
  clear hi1 hnu m1 HN
  go_wp2_with fail
  refine HNU.out.mono ?_
  rintro e w2 ⟨v2, rfl, hi2, m2, _⟩
  have M2 := Lib.hid (M1.out.trans m2 (fun x hx => .inr (B1 x hx)))
  have HD := Lib.hid (done_yes w.heap.size g v2 _ w2 hi2 (by simp) rfl)
  clear hi2 m2 HNU M1
  go_wp2_with fail
  refine HD.out.mono ?_
  rintro e w3 ⟨r, rfl, ho, m3⟩
  obtain ⟨p, cap, hr, hrd, hb⟩ := ho.rd
  subst hr
  obtain ⟨b, o, rfl, hc0⟩ := hrd.cell 0 2 rfl
  obtain ⟨_, _, e1, hc1⟩ := hrd.cell 1 1 rfl
  cases e1
  obtain ⟨_, _, e2, hc2⟩ := hrd.cell 2 0 rfl
  cases e2
  rw [Nat.add_zero] at hc0
  have M3 := Lib.hid (M2.out.trans0 m3)
  have HR := Lib.hid (newR_any w.heap.size (some ⟨b, o, none⟩) cap [2, 1, 0] w3 M3.out.size hrd (by simp))
  clear hrd hb m3 ho HD M2
  go_wp2_with fail
  refine HR.out.mono ?_
  rintro e w4 ⟨gr, vr, rfl, hgr, hvr, hi4, m4⟩
  have M4 := Lib.hid (M3.out.trans0 m4)
  have hnr := rNumber_any w.heap.size gr vr _ w4 hi4
  rw [rr256] at hnr
  have HNR := Lib.hid hnr
  have B4 := hi4.base
  clear hc0 hc1 hc2 HR hnr hi4 m4
  go_wp2_with fail
  refine HNR.out.mono ?_
  rintro e w5 ⟨rfl, hi5, m5⟩
  have M5 := Lib.hid (M4.out.trans m5 (fun x hx => .inr (by simp at hx; omega)))
  have HE := Lib.hid (end_any w.heap.size gr vr _ w5 hi5)
  clear hi5 m5 HNR
  go_wp2_with fail
  refine HE.out.mono ?_
  rintro e w6 ⟨rfl, m6⟩
  have M6 := Lib.hid (M5.out.trans0 m6)
  clear m6 HE
  go_wp2_with fail
  go_ret
  exact ⟨rfl, M6.out⟩
end Go.Proofs.Ytnmcbdppbpfegaa
