/- WireOneForm, the walk: true, whatever the input. Condition: at most 2^20 bytes, 2^20 steps. -/
import Derived.Test.YtnmcbdppbpfegaaRtSeven
namespace Go.Proofs.Ytnmcbdppbpfegaa
open Go.RowKit
attribute [local go_sem high] one8 st8 cm8 b_and8 b_and8r b_and8l b_or8 b_or8r b_or8l b_xor8 b_xor8r b_xor8l b_andNot8 b_andNot8r b_andNot8l b_add8 b_add8r b_add8l b_sub8 b_sub8r b_sub8l b_mul8 b_mul8r b_mul8l b_eql8 b_eql8r b_eql8l b_neq8 b_neq8r b_neq8l b_lss8 b_lss8r b_lss8l b_leq8 b_leq8r b_leq8l b_gtr8 b_gtr8r b_gtr8l b_geq8 b_geq8r b_geq8l b_quo8r b_rem8r b_shl8r b_shr8r b_shl8l b_shr8l u_xor8 g_eql8 g_neq8 g_eql8' g_neq8' one32 st32 cm32 b_and32 b_and32r b_and32l b_or32 b_or32r b_or32l b_xor32 b_xor32r b_xor32l b_andNot32 b_andNot32r b_andNot32l b_add32 b_add32r b_add32l b_sub32 b_sub32r b_sub32l b_mul32 b_mul32r b_mul32l b_eql32 b_eql32r b_eql32l b_neq32 b_neq32r b_neq32l b_lss32 b_lss32r b_lss32l b_leq32 b_leq32r b_leq32l b_gtr32 b_gtr32r b_gtr32l b_geq32 b_geq32r b_geq32l b_quo32r b_rem32r b_shl32r b_shr32r b_shl32l b_shr32l u_xor32 g_eql32 g_neq32 g_eql32' g_neq32' one64 st64 cm64 b_and64 b_and64r b_and64l b_or64 b_or64r b_or64l b_xor64 b_xor64r b_xor64l b_andNot64 b_andNot64r b_andNot64l b_add64 b_add64r b_add64l b_sub64 b_sub64r b_sub64l b_mul64 b_mul64r b_mul64l b_eql64 b_eql64r b_eql64l b_neq64 b_neq64r b_neq64l b_lss64 b_lss64r b_lss64l b_leq64 b_leq64r b_leq64l b_gtr64 b_gtr64r b_gtr64l b_geq64 b_geq64r b_geq64l b_quo64r b_rem64r b_shl64r b_shr64r b_shl64l b_shr64l u_xor64 g_eql64 g_neq64 g_eql64' g_neq64' c_u8_u8 c_u8_u32 c_u8_u64 c_i_u8 c_u32_u8 c_u32_u32 c_u32_u64 c_i_u32 c_u64_u8 c_u64_u32 c_u64_u64 c_i_u64 c_u8_i c_u32_i
attribute [local go_sem ↓] ce8 ce32 ce64
attribute [local go_sem ↓] sliced_slp loadOSt storeOSt
set_option maxRecDepth 100000 in
set_option maxHeartbeats 1000000 in
theorem oneform_law (p : Option Addr) (cap : Nat) (l : List UInt8) (q : Option Addr) (cq : Nat) (xs : List Sp) (w : World) (hr : Rd V8 w p cap l) (hl : l.length ≤ 1048576) (hx : RdN 8 Sp.cells w q cq xs) (hxl : xs.length ≤ 1048576) (hks : ∀ s ∈ xs, -9223372036854775808 ≤ s.kind ∧ s.kind ≤ 9223372036854775807) :
    Calls Try.prog 7 #[.slice p l.length cap, .slice q xs.length cq] w fun e w' => e = .returned (.bool true) ∧ Mod [] w w' := by
  have HK := Lib.hid known_any
  have HR := Lib.hid hr
  have HX := Lib.hid hx
  have HKS := Lib.hid hks
  have HN := Lib.hid (newR_any w.heap.size p cap l w (Nat.le_refl _) hr (by omega))
  have hcap := hr.le
  clear hr hx hks
  go_enter Try.func7, Try.ntmps7
  go_wp2_with fail
  refine HN.out.mono ?_
  rintro e w1 ⟨gr, v, rfl, hg, hvb, hi1, m1⟩
  have I1 := Lib.hid hi1
  have M1 := Lib.hid m1
  have hgl := hi1.lt
  have hvl := hi1.own_lt
  have HNW := Lib.hid (newW_any w1.heap.size w1 (Nat.le_refl _))
  obtain ⟨Bw, hBw⟩ : ∃ Bw, Bw = w1.heap.size := ⟨_, rfl⟩
  rw [← hBw] at hgl hvl HNW
  have HVL := Lib.hid hvl
  have hwB : w.heap.size ≤ Bw := by rw [hBw]; exact m1.size
  clear hi1 m1 HN hvb hBw hvl
  go_wp2_with fail
  refine HNW.out.mono ?_
  rintro e w2 ⟨gw, rfl, hgw, hi2, m2⟩
  have I2 := Lib.hid (I1.out.mod0 m2)
  have WI2 := Lib.hid hi2
  have M2 := Lib.hid (M1.out.trans0 m2)
  clear hi2 m2 HNW I1 M1 hgw
  go_wp2_with fail
  refine (HK.out _).mono ?_
  rintro e w3 ⟨rfl, m3⟩
  have I3 := Lib.hid (I2.out.mod0 m3)
  have WI3 := Lib.hid (WI2.out.mod0 m3)
  have M3 := Lib.hid (M2.out.trans0 m3)
  clear m3 I2 WI2 M2
  go_wp2_with fail
  go_loopw [7, 8] (fun av iv wr => ∃ (i a : Nat) (vw : Value) (R1 : Rr), i ≤ xs.length ∧ av = .int .i64 a ∧ iv = .int .i64 i ∧ IsR wr w.heap.size gr v R1 ∧ R1.b = l ∧ a ≤ R1.at_ ∧ (R1.e = 0 → R1.at_ = a) ∧ IsW wr Bw gw vw ⟨l.take a, 0⟩ ∧ Mod [] w wr) (fun _ iv _ => xs.length - (intOf iv).toNat)
  case atStart => exact ⟨0, 0, _, _, by omega, rfl, rfl, I3.out, rfl, Nat.le_refl _, fun _ => rfl, WI3.out, M3.out⟩
  case round =>
    obtain ⟨i, a, vw, R1, hi, rfl, rfl, hir, hb, hat, hea, hiw, hm⟩ := hrel
    have HI := Lib.hid hir
    have HB := Lib.hid hb
    have HEA := Lib.hid hea
    have HW := Lib.hid hiw
    have HM := Lib.hid hm
    have hal : R1.at_ ≤ l.length := by have := hir.le; rwa [hb] at this
    have HERR := Lib.hid (fun w1 (h1 : Mod [] wr w1) => err_any w.heap.size gr v R1 w1 (hir.mod0 h1))
    clear hir hb hea hiw I3 WI3 M3
    by_cases hgo : i < xs.length ∧ R1.e = 0
    · obtain ⟨hlt, he⟩ := hgo
      obtain ⟨s, hs⟩ : ∃ s, xs[i]? = some s := ⟨xs[i], List.getElem?_eq_getElem hlt⟩
      have hmem : s ∈ xs := List.mem_of_getElem? hs
      obtain ⟨hk0, hk1⟩ := HKS.out s hmem
      obtain ⟨b', o', rfl, hrg⟩ := HX.out.elem Sp.len i s hs
      have hL : (LoadO 48 (.pointer (some ⟨b', o' + i * 8, none⟩))).run Try.prog wr = .ok (spv s) wr := loadO_mid (range_mod hm hrg (by simp)) Try.underlying48 rfl (by rw [s.len]; exact infoSp)
      have hra := HEA.out he
      have HCP := Lib.hid (copies_any w.heap.size Bw gr gw v vw R1 s wr HI.out he (by rw [HB.out, hra]; exact HW.out) hgl HVL.out hk0 hk1)
      have e0 : (R1.e == 0) = true := by simpa using he
      have HE := Lib.hid he
      clear hm hrg hs hmem hk0 hk1 he
      go_wp2_with fail
      refine (HERR.out _ (Mod.refl _ _)).mono ?_
      rintro e w5 ⟨rfl, hw5⟩
      subst hw5
      go_wp2_with fail
      refine HCP.out.mono ?_
      rintro e w6 ⟨v2, R2, rfl, ir2, hb2, hon2, m6, hcs, hov⟩
      have HI2 := Lib.hid ir2
      have hR2l : R2.at_ ≤ l.length := by have := ir2.le; rwa [hb2, HB.out] at this
      have hfb := HW.out.foot_base
      have HM6 := Lib.hid (HM.out.trans m6 (fun x hx => .inr (by
        rcases List.mem_cons.1 hx with h | h
        · have := HI.out.base; omega
        · have := hfb x h; omega)))
      have HCS := Lib.hid hcs
      have HB2 := Lib.hid hb2
      have n1 : ¬ (R2.at_ < a) := by omega
      have n2 : ¬ (l.length < R2.at_) := by omega
      have HAT2 := Lib.hid (fun w1 (h1 : Mod [] w6 w1) => at_any w.heap.size gr v R2 w1 (ir2.mod0 h1))
      have HERR2 := Lib.hid (fun w1 (h1 : Mod [] w6 w1) => err_any w.heap.size gr v R2 w1 (ir2.mod0 h1))
      clear ir2 hb2 m6 hcs hov hfb hL HCP
      go_wp2_with fail
      refine (HAT2.out _ (Mod.refl _ _)).mono ?_
      rintro e w7 ⟨rfl, hw7⟩
      subst hw7
      rcases HCS.out with ⟨h2, hw2⟩ | ⟨h2, hw2⟩
      · have d2 : (R2.e != 0) = false := by simp [h2]
        have d3 : (R2.e == 0) = true := by simp [h2]
        have HW2 := Lib.hid hw2
        have H2 := Lib.hid h2
        clear hw2 h2
        go_wp2_with fail
        refine (HERR2.out _ (Mod.refl _ _)).mono ?_
        rintro e w8 ⟨rfl, hw8⟩
        subst hw8
        go_wp2_with fail
        refine (HERR2.out _ (Mod.refl _ _)).mono ?_
        rintro e w9 ⟨rfl, hw9⟩
        subst hw9
        go_wp2_with fail
        go_roundw
        case rel => exact ⟨i + 1, R2.at_, v2, R2, by omega, rfl, by go_num, HI2.out, by rw [HB2.out, HB.out], Nat.le_refl _, fun _ => rfl, by have := HW2.out; rwa [HB.out] at this, HM6.out⟩
        case measure => simp [intOf]; omega
      · have d2 : (R2.e != 0) = true := by simpa using h2
        have d3 : (R2.e == 0) = false := by simpa using h2
        have HW2 := Lib.hid hw2
        have H2 := Lib.hid h2
        clear hw2 h2
        go_wp2_with fail
        refine (HERR2.out _ (Mod.refl _ _)).mono ?_
        rintro e w8 ⟨rfl, hw8⟩
        subst hw8
        go_wp2_with fail
        refine (HERR2.out _ (Mod.refl _ _)).mono ?_
        rintro e w9 ⟨rfl, hw9⟩
        subst hw9
        go_wp2_with fail
        go_roundw
        case rel => exact ⟨i + 1, a, v2, R2, by omega, rfl, by go_num, HI2.out, by rw [HB2.out, HB.out], by omega, fun h => absurd h H2.out, by have := HW2.out; rwa [HB.out, hra] at this, HM6.out⟩
        case measure => simp [intOf]; omega
    · have hD := done_yes Bw gw vw ⟨l.take a, 0⟩ wr HW.out (by simp; omega) rfl
      have HD := Lib.hid hD
      have hnl : ¬ (4194304 < l.length) := by omega
      have hal2 : a ≤ l.length := by omega
      have hac : a ≤ cap := by omega
      have hml : (l.take a).length = a := List.length_take_of_le hal2
      have HTL := Lib.hid hml
      clear hD hml hm
      have htail : ∀ w5, Mod [] wr w5 → Calls Try.prog 34 #[.pointer (some ⟨gw, 0, none⟩)] w5 (DoneP w5 (l.take a)) := fun w5 h5 => done_yes Bw gw vw ⟨l.take a, 0⟩ w5 (HW.out.mod0 h5) (by simp; omega) rfl
      by_cases hlt : i < xs.length
      · have he : R1.e ≠ 0 := fun h => hgo ⟨hlt, h⟩
        have e0 : (R1.e == 0) = false := by simpa using he
        clear hgo he htail
        go_wp2_with fail
        refine (HERR.out _ (Mod.refl _ _)).mono ?_
        rintro e w5 ⟨rfl, hw5⟩
        subst hw5
        go_wp2_with fail
        refine HD.out.mono ?_
        rintro e w14 ⟨r1, rfl, o14, m14⟩
        obtain ⟨p1, c1, hr1, rd1, _⟩ := o14.rd
        subst hr1
        have HSM := Lib.hid (fun w1 (h1 : Mod [] w14 w1) => same_any p1 p c1 cap (l.take a) (l.take a) w1 (rd1.mod0 h1) (((HR.out.mod0 HM.out).mod0 (m14.trans0 h1)).take a) (by rw [HTL.out]; omega))
        rw [HTL.out] at HSM
        have HM14 := Lib.hid (HM.out.trans0 m14)
        clear o14 m14 rd1 HD
        rw [HTL.out]
        go_wp2_with fail
        refine (HSM.out _ (Mod.refl _ _)).mono ?_
        rintro e w15 ⟨rfl, nn, rfl⟩
        go_wp2_with fail
        go_ret
        exact ⟨by simp, HM14.out.drewN nn⟩
      · clear hgo htail
        go_wp2_with fail
        refine HD.out.mono ?_
        rintro e w14 ⟨r1, rfl, o14, m14⟩
        obtain ⟨p1, c1, hr1, rd1, _⟩ := o14.rd
        subst hr1
        have HSM := Lib.hid (fun w1 (h1 : Mod [] w14 w1) => same_any p1 p c1 cap (l.take a) (l.take a) w1 (rd1.mod0 h1) (((HR.out.mod0 HM.out).mod0 (m14.trans0 h1)).take a) (by rw [HTL.out]; omega))
        rw [HTL.out] at HSM
        have HM14 := Lib.hid (HM.out.trans0 m14)
        clear o14 m14 rd1 HD
        rw [HTL.out]
        go_wp2_with fail
        refine (HSM.out _ (Mod.refl _ _)).mono ?_
        rintro e w15 ⟨rfl, nn, rfl⟩
        go_wp2_with fail
        go_ret
        exact ⟨by simp, HM14.out.drewN nn⟩
end Go.Proofs.Ytnmcbdppbpfegaa
