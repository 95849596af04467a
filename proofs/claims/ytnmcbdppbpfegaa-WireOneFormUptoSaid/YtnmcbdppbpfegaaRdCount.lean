/- The document's reader: Number, Count. Condition: at most 2^22 bytes where there is no fault. -/
import Derived.Test.YtnmcbdppbpfegaaRdNum
namespace Go.Proofs.Ytnmcbdppbpfegaa
open Go.RowKit
attribute [local go_sem high] one8 st8 cm8 b_and8 b_and8r b_and8l b_or8 b_or8r b_or8l b_xor8 b_xor8r b_xor8l b_andNot8 b_andNot8r b_andNot8l b_add8 b_add8r b_add8l b_sub8 b_sub8r b_sub8l b_mul8 b_mul8r b_mul8l b_eql8 b_eql8r b_eql8l b_neq8 b_neq8r b_neq8l b_lss8 b_lss8r b_lss8l b_leq8 b_leq8r b_leq8l b_gtr8 b_gtr8r b_gtr8l b_geq8 b_geq8r b_geq8l b_quo8r b_rem8r b_shl8r b_shr8r b_shl8l b_shr8l u_xor8 g_eql8 g_neq8 g_eql8' g_neq8' one32 st32 cm32 b_and32 b_and32r b_and32l b_or32 b_or32r b_or32l b_xor32 b_xor32r b_xor32l b_andNot32 b_andNot32r b_andNot32l b_add32 b_add32r b_add32l b_sub32 b_sub32r b_sub32l b_mul32 b_mul32r b_mul32l b_eql32 b_eql32r b_eql32l b_neq32 b_neq32r b_neq32l b_lss32 b_lss32r b_lss32l b_leq32 b_leq32r b_leq32l b_gtr32 b_gtr32r b_gtr32l b_geq32 b_geq32r b_geq32l b_quo32r b_rem32r b_shl32r b_shr32r b_shl32l b_shr32l u_xor32 g_eql32 g_neq32 g_eql32' g_neq32' one64 st64 cm64 b_and64 b_and64r b_and64l b_or64 b_or64r b_or64l b_xor64 b_xor64r b_xor64l b_andNot64 b_andNot64r b_andNot64l b_add64 b_add64r b_add64l b_sub64 b_sub64r b_sub64l b_mul64 b_mul64r b_mul64l b_eql64 b_eql64r b_eql64l b_neq64 b_neq64r b_neq64l b_lss64 b_lss64r b_lss64l b_leq64 b_leq64r b_leq64l b_gtr64 b_gtr64r b_gtr64l b_geq64 b_geq64r b_geq64l b_quo64r b_rem64r b_shl64r b_shr64r b_shl64l b_shr64l u_xor64 g_eql64 g_neq64 g_eql64' g_neq64' c_u8_u8 c_u8_u32 c_u8_u64 c_i_u8 c_u32_u8 c_u32_u32 c_u32_u64 c_i_u32 c_u64_u8 c_u64_u32 c_u64_u64 c_i_u64 c_u8_i c_u32_i
attribute [local go_sem ↓] ce8 ce32 ce64
attribute [local go_sem ↓] sliced_slp
set_option maxRecDepth 100000 in
theorem dnum_any (g n cap : Nat) (p : Option Addr) (R : Rr) (w : World) (h : IsD w g p n cap R) :
    Calls Try.prog 14 #[.pointer (some ⟨g, 0, none⟩)] w (DPost g p n cap R.num.1 (.int .i64 R.num.2) w) := by
  have c1 := h.c1
  unfold DPost Rr.num
  by_cases he : R.e = 0
  · rw [if_neg (by simpa using he)]
    have HE := Lib.hid he
    cases hp : numP (R.b.drop R.at_) with
    | error er =>
      unfold numP at hp
      split at hp
      · rename_i e2 hh
        injection hp with hp
        subst hp
        have her : e2 ≠ 0 := by
          intro h0
          subst h0
          cases hd : R.b.drop R.at_ with
          | nil => rw [hd] at hh; cases hh
          | cons k r =>
            rw [hd] at hh
            simp only [highP] at hh
            repeat (split at hh; · cases hh)
            cases hh
        have HH := Lib.hid (dhigh_no g n cap p R w h he 8 8 rfl e2 hh)
        have d0 : (e2 != 0) = true := by simpa using her
        have d1 : (e2 == 0) = false := by simpa using her
        clear h he hh
        go_enter Try.func14, Try.ntmps14
        go_wp2_with fail
        refine HH.out.mono ?_
        rintro e w1 ⟨rfl, hi, hm⟩
        have c2 := hi.c2
        have HI := Lib.hid hi
        clear hi c1 HH
        go_wp2_with fail
        go_ret
        exact ⟨rfl, HI.out, hm⟩
      · rename_i hh hhp
        split at hp
        · cases hp
        · rename_i hbig
          injection hp with hp
          subst hp
          obtain ⟨hl8, hl9, _⟩ := highP_ok hhp
          have HH := Lib.hid (dhigh_yes g n cap p R w h he 8 8 rfl hh hhp)
          have hb : hh.length = 8 ∧ ∃ x, hh[0]? = some x ∧ decide (127 < x) = true := by
            cases hh with
            | nil => exact absurd (by decide) hbig
            | cons x t =>
              have hb := (not_congr (beN_big x t hl8)).1 hbig
              rw [Classical.not_not] at hb
              exact ⟨hb.1, x, rfl, by simpa using hb.2⟩
          obtain ⟨h8, x, hx0, dx⟩ := hb
          have e8 : ((hh.length : Int) == 8) = true := by rw [h8]; rfl
          have HX0 := Lib.hid hx0
          clear h he hhp hbig hl8 hl9 hx0 h8
          go_enter Try.func14, Try.ntmps14
          go_wp2_with fail
          refine HH.out.mono ?_
          rintro e w1 ⟨q, c, rfl, hrd, hoff, hi, hm⟩
          have hpos : 0 < hh.length := (List.getElem?_eq_some_iff.1 HX0.out).1
          obtain ⟨b, o, rfl, hc⟩ := hrd.cell 0 x HX0.out
          rw [Nat.add_zero] at hc
          have c2 := hi.c2
          rw [show ({ R with at_ := R.at_ + (1 + hh.length) } : Rr).e = 0 from HE.out] at c2
          have f2 := hi.frz 2
          obtain ⟨w2, hw2⟩ : ∃ W, W = w1.setCell ⟨g, 2, none⟩ (.int .i64 32) := ⟨_, rfl⟩
          have hi2 : IsD w2 g p n cap ⟨R.b, R.at_ + (1 + hh.length), 32⟩ := by rw [hw2]; exact hi.setE 32 (by decide)
          have j1 := hi2.c1
          have f1 := hi2.frz 1
          have hi3 : IsD (w2.setCell ⟨g, 1, none⟩ (.int .i64 R.at_)) g p n cap ⟨R.b, R.at_, 32⟩ := IsD.back (R := ⟨R.b, R.at_, 32⟩) hi2 (by show (32 : Int) ≠ 0; decide)
          have j3 := hi3.c2
          have HI3 := Lib.hid hi3
          have hm2 : Mod [g] w (w2.setCell ⟨g, 1, none⟩ (.int .i64 R.at_)) := by rw [hw2]; exact (hm.setCell (p := ⟨g, 2, none⟩) (.inl (by simp)) _).setCell (p := ⟨g, 1, none⟩) (.inl (by simp)) _
          have HM2 := Lib.hid hm2
          rw [hw2] at j1 f1 j3
          have HW2 := Lib.hid hw2
          obtain ⟨a1, ha1⟩ : ∃ a, a = R.at_ + (1 + hh.length) := ⟨_, rfl⟩
          change _ = some (Value.int .i64 ((R.at_ + (1 + hh.length) : Nat) : Int)) at j1
          rw [← ha1] at j1
          clear hi hi2 hi3 hw2 hm hm2 hrd hoff c1 HH ha1
          go_wp2_with fail
          go_ret
          rw [← HW2.out]
          exact ⟨rfl, HI3.out, HM2.out⟩
    | ok xc =>
      obtain ⟨nn, cc⟩ := xc
      unfold numP at hp
      split at hp
      · cases hp
      rename_i hh hhp
      split at hp
      · rename_i hlt
        injection hp with hp
        injection hp with hnn hcc
        obtain ⟨hl8, hl9, _⟩ := highP_ok hhp
        have HH := Lib.hid (dhigh_yes g n cap p R w h he 8 8 rfl hh hhp)
        have hx : hh.length = 8 → ∃ x t, hh = x :: t ∧ decide (127 < x) = false := by
          intro h8
          cases hh with
          | nil => cases h8
          | cons x t =>
            have hb := (beN_big x t hl8).1 hlt
            exact ⟨x, t, rfl, by simpa using fun hx => hb ⟨h8, hx⟩⟩
        have HX := Lib.hid hx
        have HNN := Lib.hid hnn
        have HCC := Lib.hid hcc
        clear h he hhp hx hnn hcc
        go_enter Try.func14, Try.ntmps14
        go_wp2_with fail
        refine HH.out.mono ?_
        rintro e w1 ⟨q, c, rfl, hrd, hoff, hi, hm⟩
        have c2 := hi.c2
        rw [show ({ R with at_ := R.at_ + (1 + hh.length) } : Rr).e = 0 from HE.out] at c2
        have HI := Lib.hid hi
        have HRD := Lib.hid hrd
        clear hi hrd hoff c1 HH
        by_cases h8 : hh.length = 8
        · obtain ⟨x, t, hxt, dx⟩ := HX.out h8
          obtain ⟨b, o, hq, hc⟩ := HRD.out.cell 0 x (by rw [hxt]; rfl)
          subst hq
          rw [Nat.add_zero] at hc
          have e8 : ((hh.length : Int) == 8) = true := by rw [h8]; rfl
          have hpos : 0 < hh.length := by omega
          have HXT := Lib.hid hxt
          clear hxt h8
          go_wp2_with fail
          go_loopw [5, 6] (fun nv iv wr => ∃ k : Nat, k ≤ hh.length ∧ nv = .int .i64 ((beN (hh.take k) : Nat) : Int) ∧ iv = .int .i64 k ∧ wr = w1) (fun _ iv _ => hh.length - (intOf iv).toNat)
          case atStart => exact ⟨0, by omega, rfl, rfl, rfl⟩
          case round =>
            obtain ⟨k, hk, rfl, rfl, hw⟩ := hrel
            have hw' := hw.symm
            clear hw
            subst hw'
            by_cases hkl : k < hh.length
            · obtain ⟨y, hy⟩ : ∃ y, hh[k]? = some y := ⟨hh[k], List.getElem?_eq_getElem hkl⟩
              obtain ⟨b9, o9, hq9, hcy⟩ := HRD.out.cell k y hy
              cases hq9
              have hts := beN_take_succ hh k y hy
              have htl := beN_take_le hh (k + 1)
              have hy8 := y.toNat_lt
              obtain ⟨z, hz⟩ : ∃ z, z = beN (hh.take k) := ⟨_, rfl⟩
              rw [← hz] at hts ⊢
              have hzb : z * 256 + y.toNat < 9223372036854775808 := by omega
              have HTS := Lib.hid hts
              clear hy hts htl hz
              go_wp2_with fail
              go_roundw
              case rel => exact ⟨k + 1, by omega, by rw [HTS.out]; exact congrArg (Value.int .i64) (by omega), by go_num, trivial⟩
              case measure => simp [intOf]; omega
            · have hd : decide ((k : Int) < (hh.length : Int)) = false := by simp; omega
              have hkk : hh.take k = hh := List.take_of_length_le (by omega)
              rw [hkk]
              clear hkk
              go_wp2_with fail
              go_ret
              exact ⟨by rw [← HNN.out]; rfl, by rw [← HCC.out]; exact HI.out, hm⟩
        · have e8 : ((hh.length : Int) == 8) = false := by rw [beq_eq_false_iff_ne]; omega
          clear h8
          go_wp2_with fail
          go_loopw [5, 6] (fun nv iv wr => ∃ k : Nat, k ≤ hh.length ∧ nv = .int .i64 ((beN (hh.take k) : Nat) : Int) ∧ iv = .int .i64 k ∧ wr = w1) (fun _ iv _ => hh.length - (intOf iv).toNat)
          case atStart => exact ⟨0, by omega, rfl, rfl, rfl⟩
          case round =>
            obtain ⟨k, hk, rfl, rfl, hw⟩ := hrel
            have hw' := hw.symm
            clear hw
            subst hw'
            by_cases hkl : k < hh.length
            · obtain ⟨y, hy⟩ : ∃ y, hh[k]? = some y := ⟨hh[k], List.getElem?_eq_getElem hkl⟩
              obtain ⟨b9, o9, hq9, hcy⟩ := HRD.out.cell k y hy
              subst hq9
              have hts := beN_take_succ hh k y hy
              have htl := beN_take_le hh (k + 1)
              have hy8 := y.toNat_lt
              obtain ⟨z, hz⟩ : ∃ z, z = beN (hh.take k) := ⟨_, rfl⟩
              rw [← hz] at hts ⊢
              have hzb : z * 256 + y.toNat < 9223372036854775808 := by omega
              have HTS := Lib.hid hts
              clear hy hts htl hz
              go_wp2_with fail
              go_roundw
              case rel => exact ⟨k + 1, by omega, by rw [HTS.out]; exact congrArg (Value.int .i64) (by omega), by go_num, trivial⟩
              case measure => simp [intOf]; omega
            · have hd : decide ((k : Int) < (hh.length : Int)) = false := by simp; omega
              have hkk : hh.take k = hh := List.take_of_length_le (by omega)
              rw [hkk]
              clear hkk
              go_wp2_with fail
              go_ret
              exact ⟨by rw [← HNN.out]; rfl, by rw [← HCC.out]; exact HI.out, hm⟩
      · cases hp
  · rw [if_pos he]
    have HH := Lib.hid (dhigh_fault g n cap p R w h he 8)
    have d0 : (R.e != 0) = true := by simpa using he
    have d1 : (R.e == 0) = false := by simpa using he
    clear h he
    go_enter Try.func14, Try.ntmps14
    go_wp2_with fail
    refine HH.out.mono ?_
    rintro e w1 ⟨rfl, hi, hm⟩
    have c2 := hi.c2
    have HI := Lib.hid hi
    clear hi c1 HH
    go_wp2_with fail
    go_ret
    exact ⟨rfl, HI.out, hm⟩
/-- What Count makes of a reader. -/
def Rr.count (R : Rr) (m : Int) : Rr × Nat :=
  if R.e ≠ 0 then (R, 0) else match manyP m (R.b.drop R.at_) with
  | .error er => ({ R with e := er }, 0)
  | .ok (n, c) => ({ R with at_ := R.at_ + c }, n)
theorem highP_err {most : Nat} {l : List UInt8} {e : Int} (h : highP most l = .error e) : e ≠ 0 := by
  rintro rfl
  cases l with
  | nil => cases h
  | cons k r =>
    simp only [highP] at h
    repeat (split at h; · cases h)
    cases h
theorem numP_err {l : List UInt8} {e : Int} (h : numP l = .error e) : e ≠ 0 := by
  unfold numP at h
  split at h
  · rename_i e2 hh
    injection h with h
    subst h
    exact highP_err hh
  · split at h
    · cases h
    · injection h with h
      subst h
      decide
set_option maxRecDepth 100000 in
theorem dcount_any (g n cap : Nat) (p : Option Addr) (R : Rr) (w : World) (h : IsD w g p n cap R) (m : Int) :
    Calls Try.prog 17 #[.pointer (some ⟨g, 0, none⟩), .int .i64 m] w (DPost g p n cap (R.count m).1 (.int .i64 (R.count m).2) w) := by
  have c1 := h.c1
  have hN := dnum_any g n cap p R w h
  unfold Rr.num at hN
  unfold DPost Rr.count
  by_cases he : R.e = 0
  · obtain ⟨_, _, _, hl1, hl2⟩ := h.rd he
    rw [if_neg (by simpa using he)] at hN ⊢
    have HE := Lib.hid he
    unfold manyP
    cases hp : numP (R.b.drop R.at_) with
    | error er =>
      rw [hp] at hN
      have her := numP_err hp
      have d0 : (er != 0) = true := by simpa using her
      have d1 : (er == 0) = false := by simpa using her
      have HN := Lib.hid hN
      clear h he hp hN
      go_enter Try.func17, Try.ntmps17
      go_wp2_with fail
      refine HN.out.mono ?_
      rintro e w1 ⟨rfl, hi, hm⟩
      have c2 := hi.c2
      have f1 := hi.frz 1
      have k1 := hi.c1
      have HI := Lib.hid hi
      have HER := Lib.hid her
      clear hi c1 HN her
      go_wp2_with fail
      go_ret
      exact ⟨rfl, IsD.back (R := { R with e := er }) HI.out HER.out, hm.setCell (p := ⟨g, 1, none⟩) (.inl (by simp)) _⟩
    | ok xc =>
      obtain ⟨nn, cc⟩ := xc
      have hk := numP_ok hp
      rw [hp] at hN
      rw [List.length_drop] at hk
      simp only [List.length_drop]
      have HN := Lib.hid hN
      clear hp hN
      have hbig : ∀ (er : Int) (w1 : World), er ≠ 0 → IsD w1 g p n cap { R with at_ := R.at_ + cc } → IsD ((w1.setCell ⟨g, 2, none⟩ (.int .i64 er)).setCell ⟨g, 1, none⟩ (.int .i64 R.at_)) g p n cap { R with e := er } := by
        intro er w1 her hi
        exact IsD.back (R := { R with e := er }) (hi.setE er her) her
      have HB := Lib.hid hbig
      clear hbig h he
      by_cases hmn : m < (nn : Int)
      · rw [if_pos hmn]
        have d1 : decide (m < (nn : Int)) = true := by simpa using hmn
        clear hmn
        go_enter Try.func17, Try.ntmps17
        go_wp2_with fail
        refine HN.out.mono ?_
        rintro e w1 ⟨rfl, hi, hm⟩
        have c2 := hi.c2
        change _ = some (Value.int .i64 R.e) at c2
        rw [HE.out] at c2
        have f1 := hi.frz 1
        have f2 := hi.frz 2
        have k1 := hi.c1
        obtain ⟨a1, ha1⟩ : ∃ a, a = R.at_ + cc := ⟨_, rfl⟩
        change _ = some (Value.int .i64 ((R.at_ + cc : Nat) : Int)) at k1
        rw [← ha1] at k1
        have HI := Lib.hid (HB.out 30 w1 (by decide) hi)
        clear hi c1 HN ha1
        go_wp2_with fail
        go_ret
        exact ⟨rfl, HI.out, (hm.setCell (p := ⟨g, 2, none⟩) (.inl (by simp)) _).setCell (p := ⟨g, 1, none⟩) (.inl (by simp)) _⟩
      · rw [if_neg hmn]
        have d1 : decide (m < (nn : Int)) = false := by simpa using hmn
        clear hmn
        by_cases hln : R.b.length - R.at_ - cc < nn
        · rw [if_pos hln]
          go_enter Try.func17, Try.ntmps17
          go_wp2_with fail
          refine HN.out.mono ?_
          rintro e w1 ⟨rfl, hi, hm⟩
          have c2 := hi.c2
          change _ = some (Value.int .i64 R.e) at c2
          rw [HE.out] at c2
          have hlf := left_any g n cap p _ w1 hi HE.out
          change Calls _ _ _ _ (fun e w' => e = .returned (.int .i64 ((R.b.length : Int) - ((R.at_ + cc : Nat) : Int))) ∧ _) at hlf
          obtain ⟨a1, ha1⟩ : ∃ a, a = R.at_ + cc := ⟨_, rfl⟩
          rw [← ha1] at hlf
          have d2 : decide ((R.b.length : Int) - (a1 : Int) < (nn : Int)) = true := by simp; omega
          have HLF := Lib.hid hlf
          have HI0 := Lib.hid hi
          clear hi c1 HN ha1 hlf
          go_wp2_with fail
          refine HLF.out.mono ?_
          rintro e w2 ⟨rfl, mm, hw2⟩
          have hm2 : Mod [] w1 w2 := by rw [hw2]; exact (Mod.refl [] w1).drewN mm
          have hi2 := HI0.out.mod0 hm2
          have k2 := hi2.c2
          change _ = some (Value.int .i64 R.e) at k2
          rw [HE.out] at k2
          have f1 := hi2.frz 1
          have f2 := hi2.frz 2
          have k1 := hi2.c1
          have HI := Lib.hid (HB.out 31 w2 (by decide) hi2)
          have HM2 := Lib.hid (hm.trans0 hm2)
          clear hi2 c2 HLF hw2 hm2
          go_wp2_with fail
          go_ret
          exact ⟨rfl, HI.out, (HM2.out.setCell (p := ⟨g, 2, none⟩) (.inl (by simp)) _).setCell (p := ⟨g, 1, none⟩) (.inl (by simp)) _⟩
        · rw [if_neg hln]
          go_enter Try.func17, Try.ntmps17
          go_wp2_with fail
          refine HN.out.mono ?_
          rintro e w1 ⟨rfl, hi, hm⟩
          have c2 := hi.c2
          change _ = some (Value.int .i64 R.e) at c2
          rw [HE.out] at c2
          have hlf := left_any g n cap p _ w1 hi HE.out
          change Calls _ _ _ _ (fun e w' => e = .returned (.int .i64 ((R.b.length : Int) - ((R.at_ + cc : Nat) : Int))) ∧ _) at hlf
          obtain ⟨a1, ha1⟩ : ∃ a, a = R.at_ + cc := ⟨_, rfl⟩
          rw [← ha1] at hlf
          have d2 : decide ((R.b.length : Int) - (a1 : Int) < (nn : Int)) = false := by simp; omega
          have HLF := Lib.hid hlf
          have HI0 := Lib.hid hi
          clear hi c1 HN ha1 hlf
          go_wp2_with fail
          refine HLF.out.mono ?_
          rintro e w2 ⟨rfl, mm, hw2⟩
          have hm2 : Mod [] w1 w2 := by rw [hw2]; exact (Mod.refl [] w1).drewN mm
          have hi2 := HI0.out.mod0 hm2
          have k2 := hi2.c2
          change _ = some (Value.int .i64 R.e) at k2
          rw [HE.out] at k2
          have HI := Lib.hid hi2
          have HM2 := Lib.hid (hm.trans0 hm2)
          clear hi2 c2 HLF hw2 hm2
          go_wp2_with fail
          go_ret
          exact ⟨rfl, HI.out, HM2.out⟩
  · rw [if_pos he] at hN ⊢
    have HN := Lib.hid hN
    have d0 : (R.e != 0) = true := by simpa using he
    have d1 : (R.e == 0) = false := by simpa using he
    have HE := Lib.hid he
    clear h he hN
    go_enter Try.func17, Try.ntmps17
    go_wp2_with fail
    refine HN.out.mono ?_
    rintro e w1 ⟨rfl, hi, hm⟩
    have c2 := hi.c2
    have k1 := hi.c1
    have f1 := hi.frz 1
    have HI := Lib.hid hi
    clear hi c1 HN
    go_wp2_with fail
    go_ret
    exact ⟨rfl, IsD.back (R := R) HI.out HE.out, hm.setCell (p := ⟨g, 1, none⟩) (.inl (by simp)) _⟩
/-- Read, where the bytes may be so many; where they may not. -/
theorem dread_any (p : Option Addr) (cap : Nat) (l : List UInt8) (w : World) (hr : Rd V8 w p cap l) (hl : l.length ≤ 1099511627776) (hp : ∀ x, p = some x → x.block < w.heap.size) :
    Calls Try.prog 9 #[.slice p l.length cap] w fun e w' => ∃ g, e = .returned (.pointer (some ⟨g, 0, none⟩)) ∧ w.heap.size ≤ g ∧ IsD w' g p l.length cap (if 4194304 < l.length then ⟨[], 0, 30⟩ else ⟨l, 0, 0⟩) ∧ Mod [] w w' := by
  have HR := Lib.hid hr
  clear hr
  by_cases h : 4194304 < l.length
  · have hd : decide (4194304 < (l.length : Int)) = true := by simp; omega
    rw [if_pos h]
    go_enter Try.func9, Try.ntmps9
    go_wp2
    go_ret
    refine ⟨_, rfl, Nat.le_refl _, ⟨?_, fun h0 => absurd h0 (by decide)⟩, ((Mod.refl _ _).alloc _)⟩
    exact hp_new _ _ _ rfl
  · have hd : decide (4194304 < (l.length : Int)) = false := by simp; omega
    rw [if_neg h]
    go_enter Try.func9, Try.ntmps9
    go_wp2
    go_ret
    have hm := (Mod.refl [] w).alloc (.cells #[.slice p l.length cap, .int .i64 0, .int .i64 0] 37)
    refine ⟨_, rfl, Nat.le_refl _, ⟨hp_new _ _ _ rfl, fun _ => ⟨rfl, HR.out.mod0 hm, fun x hx hg => ?_, Nat.zero_le _, by show l.length ≤ 4194304; omega⟩⟩, hm⟩
    rw [List.mem_singleton] at hg
    have := hp x hx
    omega
end Go.Proofs.Ytnmcbdppbpfegaa
