/- DigestHexes. Condition: the table of the steps lies in its variable. -/
import Derived.Test.YtmjdfglidfdkaaaDoorHexEq
import Derived.Test.YtmjdfglidfdkaaaDoorLawSums
import Derived.Test.YtmjdfglidfdkaaaDoorLawBehind
namespace Go.Proofs.YtmjdfglidfdkaaaDoor
open Go.RowKit
attribute [local go_sem high] one8 st8 cm8 b_and8 b_and8r b_and8l b_or8 b_or8r b_or8l b_xor8 b_xor8r b_xor8l b_andNot8 b_andNot8r b_andNot8l b_add8 b_add8r b_add8l b_sub8 b_sub8r b_sub8l b_mul8 b_mul8r b_mul8l b_eql8 b_eql8r b_eql8l b_neq8 b_neq8r b_neq8l b_lss8 b_lss8r b_lss8l b_leq8 b_leq8r b_leq8l b_gtr8 b_gtr8r b_gtr8l b_geq8 b_geq8r b_geq8l b_quo8r b_rem8r b_shl8r b_shr8r b_shl8l b_shr8l u_xor8 g_eql8 g_neq8 g_eql8' g_neq8' one32 st32 cm32 b_and32 b_and32r b_and32l b_or32 b_or32r b_or32l b_xor32 b_xor32r b_xor32l b_andNot32 b_andNot32r b_andNot32l b_add32 b_add32r b_add32l b_sub32 b_sub32r b_sub32l b_mul32 b_mul32r b_mul32l b_eql32 b_eql32r b_eql32l b_neq32 b_neq32r b_neq32l b_lss32 b_lss32r b_lss32l b_leq32 b_leq32r b_leq32l b_gtr32 b_gtr32r b_gtr32l b_geq32 b_geq32r b_geq32l b_quo32r b_rem32r b_shl32r b_shr32r b_shl32l b_shr32l u_xor32 g_eql32 g_neq32 g_eql32' g_neq32' one64 st64 cm64 b_and64 b_and64r b_and64l b_or64 b_or64r b_or64l b_xor64 b_xor64r b_xor64l b_andNot64 b_andNot64r b_andNot64l b_add64 b_add64r b_add64l b_sub64 b_sub64r b_sub64l b_mul64 b_mul64r b_mul64l b_eql64 b_eql64r b_eql64l b_neq64 b_neq64r b_neq64l b_lss64 b_lss64r b_lss64l b_leq64 b_leq64r b_leq64l b_gtr64 b_gtr64r b_gtr64l b_geq64 b_geq64r b_geq64l b_quo64r b_rem64r b_shl64r b_shr64r b_shl64l b_shr64l u_xor64 g_eql64 g_neq64 g_eql64' g_neq64' c_u8_u8 c_u8_u32 c_u8_u64 c_i_u8 c_u32_u8 c_u32_u32 c_u32_u64 c_i_u32 c_u64_u8 c_u64_u32 c_u64_u64 c_i_u64 c_u8_i c_u32_i
attribute [local go_sem ↓] ce8 ce32 ce64
attribute [local go_sem ↓] loadO26 storeO26
attribute [local irreducible] compress hst laidOf fin refOf bitsOf hexOf hexOut
set_option maxHeartbeats 2000000 in
theorem hexes_any (d : List UInt8) (s : ByteArray) (w : World) (hd : d.length = 32) (ht : Tab w) :
    Calls Tryd.prog 10 #[dv d, .string s] w fun e w' => e = .returned (.bool true) ∧ Mod [] w w' := by
  have HT := Lib.hid ht
  clear ht
  obtain ⟨l, hl⟩ : ∃ l, l = s.data.toList := ⟨_, rfl⟩
  obtain ⟨T, hT⟩ : ∃ T : ByteArray, T = ⟨(hexOf d).toArray⟩ := ⟨_, rfl⟩
  have R1 := fun w => readHex_any T w
  have e1 : T.data.toList = hexOf d := by rw [hT]
  rw [e1, hexOut_hexOf d hd, show hexErr (hexOf d) = 0 by unfold hexErr; rw [if_pos (hexOf_good d hd)]] at R1
  have HX := fun w => hex_any d w hd
  have HX2 := fun w => ref_hex d w hd
  rw [← hT] at HX HX2
  obtain ⟨x, hx⟩ : ∃ x, x = hexOut l := ⟨_, rfl⟩
  obtain ⟨er, her⟩ : ∃ er, er = hexErr l := ⟨_, rfl⟩
  have R2 := fun w => readHex_any s w
  have R3 := fun w => ref_readHex s w
  rw [← hl, ← hx, ← her] at R2 R3
  have hx32 : x.length = 32 := by rw [hx]; exact hexOut_length l
  have HB := fun w => hex_any x w hx32
  have hback : er = 0 → (⟨(hexOf x).toArray⟩ : ByteArray) = s := fun h0 => by
    have hg : hexGood l = true := by
      rw [her] at h0
      unfold hexErr at h0
      by_cases hg : hexGood l = true
      · exact hg
      · rw [if_neg hg] at h0; omega
    rw [hx, hexOf_hexOut l hg, hl]
  have her2 : er = 0 ∨ er = 10 := by rw [her]; unfold hexErr; split <;> simp
  obtain ⟨U, hU⟩ : ∃ U : ByteArray, U = ⟨(hexOf x).toArray⟩ := ⟨_, rfl⟩
  rw [← hU] at HB hback
  have R1 := Lib.hid R1
  have R2 := Lib.hid R2
  have R3 := Lib.hid R3
  have HX := Lib.hid HX
  have HX2 := Lib.hid HX2
  have HB := Lib.hid HB
  have HBACK := Lib.hid hback
  clear hl hT e1 hx her hback hU
  unfold dv
  go_enter Tryd.func10, Tryd.ntmps10
  have D0 := Lib.hid (hp_new w (.cells (d.map V8).toArray 26) _ rfl)
  have M0 := (Mod.refl [] w).alloc (.cells (d.map V8).toArray 26)
  go_wp2_with fail
  refine (awake_any _ (Tab.mod M0 HT.out (by simp))).mono ?_
  rintro e w1 ⟨rfl, m1⟩
  have M1 := M0.trans0 m1
  have D1 := Lib.hid (m1.get0 D0.out)
  have hL := loadDv d hd D1.out
  clear m1 M0 D0
  go_wp2_with fail
  refine (HX.out w1).mono ?_
  rintro e w2 ⟨rfl, m2⟩
  have M2 := M1.trans0 m2
  have D2 := Lib.hid (m2.get0 D1.out)
  clear m2 M1 D1 hL
  go_wp2_with fail
  refine (R1.out w2).mono ?_
  rintro e w3 ⟨rfl, m3⟩
  have M3 := (M2.trans0 m3).alloc (.cells (d.map V8).toArray 26)
  have D3 := Lib.hid (hp_old (o := .cells (d.map V8).toArray 26) (m3.get0 D2.out))
  have E3 := Lib.hid (hp_new w3 (.cells (d.map V8).toArray 26) _ rfl)
  have hS := storeNewD w3 d hd
  clear m3 M2 D2
  go_wp2_with fail
  clear hS
  refine (R2.out _).mono ?_
  rintro e w4 ⟨rfl, m4⟩
  have M4 := (M3.trans0 m4).alloc (.cells (x.map V8).toArray 26)
  have D4 := Lib.hid (hp_old (o := .cells (x.map V8).toArray 26) (m4.get0 D3.out))
  have E4 := Lib.hid (hp_old (o := .cells (x.map V8).toArray 26) (m4.get0 E3.out))
  have F4 := Lib.hid (hp_new w4 (.cells (x.map V8).toArray 26) _ rfl)
  have hS := storeNewD w4 x hx32
  clear m4 M3 D3 E3
  go_wp2_with fail
  clear hS
  refine (R3.out _).mono ?_
  rintro e w5 ⟨rfl, m5⟩
  have M5 := (M4.trans0 m5).alloc (.cells (x.map V8).toArray 26)
  have D5 := Lib.hid (hp_old (o := .cells (x.map V8).toArray 26) (m5.get0 D4.out))
  have E5 := Lib.hid (hp_old (o := .cells (x.map V8).toArray 26) (m5.get0 E4.out))
  have F5 := Lib.hid (hp_old (o := .cells (x.map V8).toArray 26) (m5.get0 F4.out))
  have G5 := Lib.hid (hp_new w5 (.cells (x.map V8).toArray 26) _ rfl)
  have hS := storeNewD w5 x hx32
  have LD := loadDv d hd D5.out
  clear m5 M4 D4 E4 F4
  go_wp2_with fail
  clear hS LD
  refine (HX2.out _).mono ?_
  rintro e w6 ⟨rfl, m6⟩
  have M6 := M5.trans0 m6
  have LD := loadDv d hd (m6.get0 D5.out)
  have LE := loadDv d hd (m6.get0 E5.out)
  have LF := loadDv x hx32 (m6.get0 F5.out)
  have LG := loadDv x hx32 (m6.get0 G5.out)
  have hN := fun w => neqD w d hd
  have hN2 := fun w => neqD w x hx32
  have hGd := eqGuardD
  clear m6 M5 D5 E5 F5 G5
  rcases her2 with rfl | rfl
  · have hUs := HBACK.out rfl
    clear HBACK
    subst hUs
    go_wp2_with fail
    refine (HB.out _).mono ?_
    rintro e w7 ⟨rfl, m7⟩
    go_wp2_with fail
    go_ret
    exact ⟨by simp, M6.trans0 m7⟩
  · go_wp2_with fail
    go_ret
    exact ⟨rfl, M6⟩
end Go.Proofs.YtmjdfglidfdkaaaDoor
