/- The document's reader: Byte, high. Condition: at most 2^22 bytes where there is no fault. -/
import Derived.Test.YtnmcbdppbpfegaaRdRef
import Derived.Test.YtnmcbdppbpfegaaRrHigh
namespace Go.Proofs.Ytnmcbdppbpfegaa
open Go.RowKit
attribute [local go_sem high] one8 st8 cm8 b_and8 b_and8r b_and8l b_or8 b_or8r b_or8l b_xor8 b_xor8r b_xor8l b_andNot8 b_andNot8r b_andNot8l b_add8 b_add8r b_add8l b_sub8 b_sub8r b_sub8l b_mul8 b_mul8r b_mul8l b_eql8 b_eql8r b_eql8l b_neq8 b_neq8r b_neq8l b_lss8 b_lss8r b_lss8l b_leq8 b_leq8r b_leq8l b_gtr8 b_gtr8r b_gtr8l b_geq8 b_geq8r b_geq8l b_quo8r b_rem8r b_shl8r b_shr8r b_shl8l b_shr8l u_xor8 g_eql8 g_neq8 g_eql8' g_neq8' one32 st32 cm32 b_and32 b_and32r b_and32l b_or32 b_or32r b_or32l b_xor32 b_xor32r b_xor32l b_andNot32 b_andNot32r b_andNot32l b_add32 b_add32r b_add32l b_sub32 b_sub32r b_sub32l b_mul32 b_mul32r b_mul32l b_eql32 b_eql32r b_eql32l b_neq32 b_neq32r b_neq32l b_lss32 b_lss32r b_lss32l b_leq32 b_leq32r b_leq32l b_gtr32 b_gtr32r b_gtr32l b_geq32 b_geq32r b_geq32l b_quo32r b_rem32r b_shl32r b_shr32r b_shl32l b_shr32l u_xor32 g_eql32 g_neq32 g_eql32' g_neq32' one64 st64 cm64 b_and64 b_and64r b_and64l b_or64 b_or64r b_or64l b_xor64 b_xor64r b_xor64l b_andNot64 b_andNot64r b_andNot64l b_add64 b_add64r b_add64l b_sub64 b_sub64r b_sub64l b_mul64 b_mul64r b_mul64l b_eql64 b_eql64r b_eql64l b_neq64 b_neq64r b_neq64l b_lss64 b_lss64r b_lss64l b_leq64 b_leq64r b_leq64l b_gtr64 b_gtr64r b_gtr64l b_geq64 b_geq64r b_geq64l b_quo64r b_rem64r b_shl64r b_shr64r b_shl64l b_shr64l u_xor64 g_eql64 g_neq64 g_eql64' g_neq64' c_u8_u8 c_u8_u32 c_u8_u64 c_i_u8 c_u32_u8 c_u32_u32 c_u32_u64 c_i_u32 c_u64_u8 c_u64_u32 c_u64_u64 c_i_u64 c_u8_i c_u32_i
attribute [local go_sem ↓] ce8 ce32 ce64
attribute [local go_sem ↓] sliced_slp
theorem dbyte_fault (g n cap : Nat) (p : Option Addr) (R : Rr) (w : World) (h : IsD w g p n cap R) (he : R.e ≠ 0) :
    Calls Try.prog 84 #[.pointer (some ⟨g, 0, none⟩)] w fun e w' => e = .returned (.int .u8 0) ∧ w' = w := by
  have HF := Lib.hid (fixed_fault g n cap p R w h he 1)
  have c2 := h.c2
  have d0 : (R.e != 0) = true := by simpa using he
  clear h he
  go_enter Try.func84, Try.ntmps84
  go_wp2_with fail
  refine HF.out.mono ?_
  rintro e w1 ⟨rfl, hw⟩
  subst hw
  go_wp2_with fail
  go_ret
  exact ⟨rfl, rfl⟩
theorem dbyte_short (g n cap : Nat) (p : Option Addr) (R : Rr) (w : World) (h : IsD w g p n cap R) (he : R.e = 0) (hr : R.b.drop R.at_ = []) :
    Calls Try.prog 84 #[.pointer (some ⟨g, 0, none⟩)] w (DPost g p n cap { R with e := 31 } (.int .u8 0) w) := by
  have hl : R.b.length ≤ R.at_ := List.drop_eq_nil_iff.1 hr
  have HF := Lib.hid (fixed_short g n cap p R w h he 1 (by omega))
  clear h he hr
  go_enter Try.func84, Try.ntmps84
  go_wp2_with fail
  refine HF.out.mono ?_
  rintro e w1 ⟨rfl, hi, hm⟩
  have c2 := hi.c2
  have HI := Lib.hid hi
  clear hi HF
  go_wp2_with fail
  go_ret
  exact ⟨rfl, HI.out, hm⟩
theorem dbyte_yes (g n cap : Nat) (p : Option Addr) (R : Rr) (w : World) (h : IsD w g p n cap R) (he : R.e = 0) (k : UInt8) (r : List UInt8) (hr : R.b.drop R.at_ = k :: r) :
    Calls Try.prog 84 #[.pointer (some ⟨g, 0, none⟩)] w (DPost g p n cap { R with at_ := R.at_ + 1 } (V8 k) w) := by
  obtain ⟨hl, h2, h3⟩ := drop_cons hr
  have HF := Lib.hid (fixed_yes g n cap p R w h he 1 (by omega))
  have HR := Lib.hid hr
  have HE := Lib.hid he
  clear h he hr h2
  go_enter Try.func84, Try.ntmps84
  go_wp2_with fail
  refine HF.out.mono ?_
  rintro e w1 ⟨q, c, rfl, hrd, _, _, hi, hm⟩
  rw [HR.out] at hrd
  obtain ⟨b, o, rfl, hc⟩ := hrd.cell 0 k rfl
  rw [Nat.add_zero] at hc
  have c2 := hi.c2
  rw [show ({ R with at_ := R.at_ + 1 } : Rr).e = 0 from HE.out] at c2
  have HI := Lib.hid hi
  clear hi HF hrd
  go_wp2_with fail
  go_ret
  exact ⟨rfl, HI.out, hm⟩
theorem IsD.back {w : World} {g n cap : Nat} {p : Option Addr} {R : Rr} {i : Nat} (h : IsD w g p n cap { R with at_ := i }) (he : R.e ≠ 0) : IsD (w.setCell ⟨g, 1, none⟩ (.int .i64 R.at_)) g p n cap R :=
  h.setAt R.at_ (fun h0 => absurd h0 he)
set_option maxRecDepth 100000 in
theorem dhigh_fault (g n cap : Nat) (p : Option Addr) (R : Rr) (w : World) (h : IsD w g p n cap R) (he : R.e ≠ 0) (m : Int) :
    Calls Try.prog 41 #[.pointer (some ⟨g, 0, none⟩), .int .i64 m] w (DPost g p n cap R (.slice none 0 0) w) := by
  have HB := Lib.hid (dbyte_fault g n cap p R w h he)
  have HF := Lib.hid (fixed_fault g n cap p R w h he 0)
  have c1 := h.c1
  have c2 := h.c2
  have f1 := h.frz 1
  have d0 : (R.e != 0) = true := by simpa using he
  have d1 : (R.e == 0) = false := by simpa using he
  have H := Lib.hid (show IsD w g p n cap { R with at_ := R.at_ } from h)
  have HE := Lib.hid he
  clear h he
  go_enter Try.func41, Try.ntmps41
  go_wp2_with fail
  refine HB.out.mono ?_
  rintro e w1 ⟨rfl, hw⟩
  subst hw
  go_wp2_with fail
  refine HF.out.mono ?_
  rintro e w2 ⟨rfl, hw⟩
  subst hw
  go_wp2_with fail
  go_ret
  exact ⟨rfl, H.out.back HE.out, (Mod.refl [g] _).setCell (p := ⟨g, 1, none⟩) (.inl (by simp)) _⟩
/-- Where there is a fault behind the number of bytes: the rest of 'high'. -/
theorem IsD.sub {w w' : World} {g n cap : Nat} {p : Option Addr} {R : Rr} (h : IsD w g p n cap R) (hm : Mod [] w w') : IsD w' g p n cap R := h.mod0 hm
set_option maxRecDepth 100000 in
theorem dhigh_no (g n cap : Nat) (p : Option Addr) (R : Rr) (w : World) (h : IsD w g p n cap R) (he : R.e = 0) (m : Int) (most : Nat) (hm : m = (most : Int)) (er : Int) (hp : highP most (R.b.drop R.at_) = .error er) :
    Calls Try.prog 41 #[.pointer (some ⟨g, 0, none⟩), .int .i64 m] w (DPost g p n cap { R with e := er } (.slice none 0 0) w) := by
  subst hm
  obtain ⟨_, _, _, hl1, hl2⟩ := h.rd he
  have c1 := h.c1
  have HE := Lib.hid he
  cases hd : R.b.drop R.at_ with
  | nil =>
    rw [hd] at hp
    simp only [highP, Except.error.injEq] at hp
    subst hp
    have HB := Lib.hid (dbyte_short g n cap p R w h he hd)
    clear h hd he
    go_enter Try.func41, Try.ntmps41
    go_wp2_with fail
    refine HB.out.mono ?_
    rintro e w1 ⟨rfl, hi, hm1⟩
    have HF := Lib.hid (fixed_fault g n cap p _ w1 hi (by show (31 : Int) ≠ 0; decide) 0)
    have c2 := hi.c2
    have k1 := hi.c1
    have f1 := hi.frz 1
    have HI := Lib.hid hi
    clear hi c1
    go_wp2_with fail
    refine HF.out.mono ?_
    rintro e w2 ⟨rfl, hw⟩
    subst hw
    go_wp2_with fail
    go_ret
    exact ⟨rfl, IsD.back (R := { R with e := 31 }) HI.out (by show (31 : Int) ≠ 0; decide), hm1.setCell (p := ⟨g, 1, none⟩) (.inl (by simp)) _⟩
  | cons k r =>
    obtain ⟨hl, hdr, hrl⟩ := drop_cons hd
    have hkt := k.toNat_lt
    have HB := Lib.hid (dbyte_yes g n cap p R w h he k r hd)
    rw [hd] at hp
    simp only [highP] at hp
    clear h hd he
    split at hp
    · rename_i hmk
      injection hp with hp
      subst hp
      have d1 : decide (most < k.toNat) = true := by simpa using hmk
      go_enter Try.func41, Try.ntmps41
      go_wp2_with fail
      refine HB.out.mono ?_
      rintro e w1 ⟨rfl, hi, hm1⟩
      have c2 := hi.c2
      rw [show ({ R with at_ := R.at_ + 1 } : Rr).e = 0 from HE.out] at c2
      have f2 := hi.frz 2
      obtain ⟨w2, hw2⟩ : ∃ W, W = w1.setCell ⟨g, 2, none⟩ (.int .i64 32) := ⟨_, rfl⟩
      have hi2 : IsD w2 g p n cap ⟨R.b, R.at_ + 1, 32⟩ := by rw [hw2]; exact hi.setE 32 (by decide)
      have hf := fixed_fault g n cap p _ w2 hi2 (by show (32 : Int) ≠ 0; decide) (k.toNat : Int)
      have k2 := hi2.c2
      have k1 := hi2.c1
      have f1 := hi2.frz 1
      have HI2 := Lib.hid hi2
      have hm2 : Mod [g] w w2 := by rw [hw2]; exact hm1.setCell (p := ⟨g, 2, none⟩) (.inl (by simp)) _
      rw [hw2] at hf k2 k1 f1
      have HF := Lib.hid hf
      have HW2 := Lib.hid hw2
      clear hi c1 hi2 hf hw2 HB
      go_wp2_with fail
      refine HF.out.mono ?_
      rintro e w3 ⟨rfl, hw⟩
      subst hw
      go_wp2_with fail
      go_ret
      rw [← HW2.out]
      exact ⟨rfl, IsD.back (R := { R with e := 32 }) HI2.out (by show (32 : Int) ≠ 0; decide), hm2.setCell (p := ⟨g, 1, none⟩) (.inl (by simp)) _⟩
    rename_i hmk
    have d1 : decide (most < k.toNat) = false := by simpa using hmk
    split at hp
    · rename_i hkl
      injection hp with hp
      subst hp
      go_enter Try.func41, Try.ntmps41
      go_wp2_with fail
      refine HB.out.mono ?_
      rintro e w1 ⟨rfl, hi, hm1⟩
      have c2 := hi.c2
      rw [show ({ R with at_ := R.at_ + 1 } : Rr).e = 0 from HE.out] at c2
      have HF := Lib.hid (fixed_short g n cap p _ w1 hi HE.out k.toNat (by show R.b.length - (R.at_ + 1) < k.toNat; omega))
      clear hi c1 HB
      go_wp2_with fail
      refine HF.out.mono ?_
      rintro e w3 ⟨rfl, hi, hm2⟩
      have k2 := hi.c2
      have k1 := hi.c1
      have f1 := hi.frz 1
      have HI := Lib.hid hi
      clear hi c2
      go_wp2_with fail
      go_ret
      exact ⟨rfl, IsD.back (R := { R with e := 31 }) HI.out (by show (31 : Int) ≠ 0; decide), (hm1.trans hm2 (fun x hx => .inl hx)).setCell (p := ⟨g, 1, none⟩) (.inl (by simp)) _⟩
    rename_i hkl
    split at hp
    · rename_i hz
      injection hp with hp
      subst hp
      obtain ⟨hk0, hhd⟩ := hz
      have hkp : 0 < k.toNat := by
        rcases Nat.eq_zero_or_pos k.toNat with e | e
        · exact absurd (UInt8.toNat_inj.1 (by simpa using e)) hk0
        · exact e
      have HHD := Lib.hid hhd
      have HDR := Lib.hid hdr
      clear hhd hdr
      go_enter Try.func41, Try.ntmps41
      go_wp2_with fail
      refine HB.out.mono ?_
      rintro e w1 ⟨rfl, hi, hm1⟩
      have c2 := hi.c2
      rw [show ({ R with at_ := R.at_ + 1 } : Rr).e = 0 from HE.out] at c2
      have HF := Lib.hid (fixed_yes g n cap p _ w1 hi HE.out k.toNat (by show k.toNat ≤ R.b.length - (R.at_ + 1); omega))
      clear hi c1 HB
      go_wp2_with fail
      refine HF.out.mono ?_
      rintro e w3 ⟨q, c, rfl, hrd, _, _, hi, hm2⟩
      have hx0 : ((R.b.drop (R.at_ + 1)).take k.toNat)[0]? = some 0 := by
        rw [HDR.out, List.getElem?_take, if_pos hkp, ← List.head?_eq_getElem?]; exact HHD.out
      obtain ⟨b2, o2, rfl, hc2⟩ := hrd.cell 0 _ hx0
      rw [Nat.add_zero] at hc2
      have k2 := hi.c2
      rw [show ({ R with at_ := R.at_ + 1 + k.toNat } : Rr).e = 0 from HE.out] at k2
      have f2 := hi.frz 2
      obtain ⟨w4, hw4⟩ : ∃ W, W = w3.setCell ⟨g, 2, none⟩ (.int .i64 32) := ⟨_, rfl⟩
      have hi4 : IsD w4 g p n cap ⟨R.b, R.at_ + 1 + k.toNat, 32⟩ := by rw [hw4]; exact hi.setE 32 (by decide)
      have j2 := hi4.c2
      have j1 := hi4.c1
      have f1 := hi4.frz 1
      have HI4 := Lib.hid hi4
      have hm4 : Mod [g] w w4 := by rw [hw4]; exact (hm1.trans hm2 (fun x hx => .inl hx)).setCell (p := ⟨g, 2, none⟩) (.inl (by simp)) _
      rw [hw4] at j2 j1 f1
      have HW4 := Lib.hid hw4
      clear hi c2 hi4 hw4 HF hx0 hrd
      go_wp2_with fail
      go_ret
      rw [← HW4.out]
      exact ⟨rfl, IsD.back (R := { R with e := 32 }) HI4.out (by show (32 : Int) ≠ 0; decide), hm4.setCell (p := ⟨g, 1, none⟩) (.inl (by simp)) _⟩
    · cases hp
end Go.Proofs.Ytnmcbdppbpfegaa
