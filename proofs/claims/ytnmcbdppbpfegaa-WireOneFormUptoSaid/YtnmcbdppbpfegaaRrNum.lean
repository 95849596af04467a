/- number, many of a reader. Condition: at most 2^22 bytes. -/
import Derived.Test.YtnmcbdppbpfegaaRrHigh
namespace Go.Proofs.Ytnmcbdppbpfegaa
open Go.RowKit
attribute [local go_sem high] one8 st8 cm8 b_and8 b_and8r b_and8l b_or8 b_or8r b_or8l b_xor8 b_xor8r b_xor8l b_andNot8 b_andNot8r b_andNot8l b_add8 b_add8r b_add8l b_sub8 b_sub8r b_sub8l b_mul8 b_mul8r b_mul8l b_eql8 b_eql8r b_eql8l b_neq8 b_neq8r b_neq8l b_lss8 b_lss8r b_lss8l b_leq8 b_leq8r b_leq8l b_gtr8 b_gtr8r b_gtr8l b_geq8 b_geq8r b_geq8l b_quo8r b_rem8r b_shl8r b_shr8r b_shl8l b_shr8l u_xor8 g_eql8 g_neq8 g_eql8' g_neq8' one32 st32 cm32 b_and32 b_and32r b_and32l b_or32 b_or32r b_or32l b_xor32 b_xor32r b_xor32l b_andNot32 b_andNot32r b_andNot32l b_add32 b_add32r b_add32l b_sub32 b_sub32r b_sub32l b_mul32 b_mul32r b_mul32l b_eql32 b_eql32r b_eql32l b_neq32 b_neq32r b_neq32l b_lss32 b_lss32r b_lss32l b_leq32 b_leq32r b_leq32l b_gtr32 b_gtr32r b_gtr32l b_geq32 b_geq32r b_geq32l b_quo32r b_rem32r b_shl32r b_shr32r b_shl32l b_shr32l u_xor32 g_eql32 g_neq32 g_eql32' g_neq32' one64 st64 cm64 b_and64 b_and64r b_and64l b_or64 b_or64r b_or64l b_xor64 b_xor64r b_xor64l b_andNot64 b_andNot64r b_andNot64l b_add64 b_add64r b_add64l b_sub64 b_sub64r b_sub64l b_mul64 b_mul64r b_mul64l b_eql64 b_eql64r b_eql64l b_neq64 b_neq64r b_neq64l b_lss64 b_lss64r b_lss64l b_leq64 b_leq64r b_leq64l b_gtr64 b_gtr64r b_gtr64l b_geq64 b_geq64r b_geq64l b_quo64r b_rem64r b_shl64r b_shr64r b_shl64l b_shr64l u_xor64 g_eql64 g_neq64 g_eql64' g_neq64' c_u8_u8 c_u8_u32 c_u8_u64 c_i_u8 c_u32_u8 c_u32_u32 c_u32_u64 c_i_u32 c_u64_u8 c_u64_u32 c_u64_u64 c_i_u64 c_u8_i c_u32_i
attribute [local go_sem ↓] ce8 ce32 ce64
attribute [local go_sem ↓] sliced_slp
/-- Bytes as a number, as the program reckons it. -/
def be64 (l : List UInt8) : UInt64 := l.foldl (fun n c => (n <<< 8) ||| c.toUInt64) 0
theorem be64_succ (l : List UInt8) (k : Nat) (x : UInt8) (h : l[k]? = some x) : be64 (l.take (k + 1)) = (be64 (l.take k) <<< 8) ||| x.toUInt64 := by
  rw [List.take_add_one, h]
  simp [be64]
theorem or_step (a : UInt64) (c : UInt8) (h : a.toNat < 72057594037927936) : ((a <<< 8) ||| c.toUInt64).toNat = a.toNat * 256 + c.toNat := by
  have hc := c.toNat_lt
  rw [UInt64.toNat_or, UInt64.toNat_shiftLeft, UInt8.toNat_toUInt64, show (8 : UInt64).toNat % 64 = 8 from rfl, Nat.shiftLeft_eq]
  rw [Nat.mod_eq_of_lt (show a.toNat * 2 ^ 8 < 2 ^ 64 by omega), Nat.mul_comm a.toNat (2 ^ 8)]
  rw [← Nat.two_pow_add_eq_or_of_lt (show c.toNat < 2 ^ 8 by omega)]
theorem be64_acc : ∀ (l : List UInt8) (a : UInt64), l.length ≤ 8 → a.toNat < 256 ^ (8 - l.length) → (l.foldl (fun (n : UInt64) (c : UInt8) => (n <<< 8) ||| c.toUInt64) a).toNat = l.foldl (fun n c => n * 256 + c.toNat) a.toNat
  | [], a, _, _ => rfl
  | x :: l, a, hl, ha => by
    have hx := x.toNat_lt
    have hl' : l.length ≤ 7 := by simpa using hl
    have h1 : 256 ^ (8 - (x :: l).length) * 256 = 256 ^ (8 - l.length) := by
      rw [← Nat.pow_succ]; congr 1; simp; omega
    have h2 : 256 ^ (8 - (x :: l).length) ≤ 256 ^ 7 := Nat.pow_le_pow_right (by decide) (by simp)
    have hs := or_step a x (by omega)
    rw [List.foldl_cons, List.foldl_cons, be64_acc l _ (by omega) (by rw [hs]; omega), hs]
theorem be64_toNat (l : List UInt8) (h : l.length ≤ 8) : (be64 l).toNat = beN l := by
  refine be64_acc l 0 h ?_
  exact Nat.pow_pos (by decide)
theorem c_u64_i (a : UInt64) (h : a.toNat < 9223372036854775808) (w : World) : (convert 44 3 (V64 a)).run Try.prog w = .ok (.int .i64 a.toNat) w := by
  have h1 : (convert 44 3 (V64 a)).run Try.prog w = (Conv.intToInt .i64 (a.toNat : Int)).run Try.prog w := by
    unfold convert V64; simp [run_underlying Try.underlying44, run_underlying Try.underlying3]
  have h2 : Conv.intToInt .i64 (a.toNat : Int) = pure (.int .i64 (a.toNat : Int)) := by
    refine congrArg (fun z => (pure (Value.int .i64 z) : Sem Value)) ?_
    exact wrI _ (by omega) (by omega)
  rw [h1, h2]; rfl
/-- What stands behind a number that was read. -/
def NumR (B g : Nat) (v : Value) (R : Rr) (n c : Nat) (w : World) (e : Ending) (w' : World) : Prop :=
  e = .returned (.int .i64 n) ∧ IsR w' B g v { R with at_ := R.at_ + c } ∧ Mod [g] w w'
set_option maxRecDepth 100000 in
theorem rnumber_yes (B g : Nat) (v : Value) (R : Rr) (w : World) (h : IsR w B g v R) (n c : Nat) (hp : numP (R.b.drop R.at_) = .ok (n, c)) :
    Calls Try.prog 40 #[.pointer (some ⟨g, 0, none⟩)] w (NumR B g v R n c w) := by
  unfold numP at hp
  split at hp
  · cases hp
  rename_i hh hhp
  split at hp
  · rename_i hlt
    injection hp with hp
    injection hp with hn hc
    obtain ⟨hl8, _, _⟩ := highP_ok hhp
    have h64 := be64_toNat hh hl8
    have H1 := Lib.hid (high_yes B g v R w h 8 8 rfl hh hhp)
    have HN := Lib.hid hn
    have HC := Lib.hid hc
    have H64 := Lib.hid h64
    clear h hhp hn hc h64
    unfold NumR
    go_enter Try.func40, Try.ntmps40
    go_wp2_with fail
    refine H1.out.mono ?_
    rintro e w1 ⟨q, cq, rfl, hrd, hq, hi1, m1⟩
    have HRD := Lib.hid hrd
    have HI1 := Lib.hid hi1
    have M1 := Lib.hid m1
    clear hrd hi1 hq m1
    go_wp2_with fail
    go_loopw [3, 9] (fun nv iv wr => ∃ k : Nat, k ≤ hh.length ∧ nv = V64 (be64 (hh.take k)) ∧ iv = .int .i64 k ∧ wr = w1) (fun _ iv _ => hh.length - (intOf iv).toNat)
    case atStart => exact ⟨0, by omega, rfl, rfl, rfl⟩
    case round =>
      obtain ⟨k, hk, rfl, rfl, hw⟩ := hrel
      have hw' := hw.symm
      clear hw
      subst hw'
      by_cases hkl : k < hh.length
      · obtain ⟨x, hx⟩ : ∃ x, hh[k]? = some x := ⟨hh[k], List.getElem?_eq_getElem hkl⟩
        obtain ⟨b, o, rfl, hc⟩ := HRD.out.cell k x hx
        have HB := Lib.hid (be64_succ hh k x hx)
        clear hx
        go_wp2_with fail
        go_roundw
        case rel => exact ⟨k + 1, by omega, by rw [HB.out], by go_num, trivial⟩
        case measure => simp [intOf]; omega
      · have hd : decide ((k : Int) < (hh.length : Int)) = false := by simp; omega
        have hkk : hh.take k = hh := List.take_of_length_le (by omega)
        rw [hkk]
        clear hkk
        have hlt64 : decide (be64 hh < 9223372036854775808) = true := by
          rw [decide_eq_true_eq, UInt64.lt_iff_toNat_lt, H64.out]; exact hlt
        have hcv : ∀ w, (convert 44 3 (V64 (be64 hh))).run Try.prog w = .ok (.int .i64 n) w := by
          intro w
          rw [← HN.out, ← H64.out]
          exact c_u64_i _ (by rw [H64.out]; exact hlt) w
        go_wp2_with fail
        refine (need_yes _ _).mono ?_
        rintro e w3 ⟨rfl, rfl⟩
        clear hlt64
        go_wp2_with fail
        go_ret
        exact ⟨rfl, by rw [← HC.out]; exact HI1.out, M1.out⟩
  · cases hp
set_option maxRecDepth 100000 in
theorem rnumber_no (B g : Nat) (v : Value) (R : Rr) (w : World) (h : IsR w B g v R) (er : Int) (hp : numP (R.b.drop R.at_) = .error er) :
    Calls Try.prog 40 #[.pointer (some ⟨g, 0, none⟩)] w (GaveUp B g v R er w) := by
  unfold numP at hp
  split at hp
  · rename_i e2 hhp
    injection hp with hp
    subst hp
    have H1 := Lib.hid (high_no B g v R w h 8 8 rfl _ hhp)
    clear h hhp
    go_enter Try.func40, Try.ntmps40
    go_wp2_with fail
    refine H1.out.mono ?_
    rintro e w1 ⟨rfl, hi, hm⟩
    exact ⟨rfl, rfl, hi, hm⟩
  rename_i hh hhp
  split at hp
  · cases hp
  · rename_i hlt
    injection hp with hp
    subst hp
    obtain ⟨hl8, _, _⟩ := highP_ok hhp
    have h64 := be64_toNat hh hl8
    have H1 := Lib.hid (high_yes B g v R w h 8 8 rfl hh hhp)
    have H64 := Lib.hid h64
    clear h hhp h64
    go_enter Try.func40, Try.ntmps40
    go_wp2_with fail
    refine H1.out.mono ?_
    rintro e w1 ⟨q, cq, rfl, hrd, hq, hi1, m1⟩
    have HRD := Lib.hid hrd
    have HI1 := Lib.hid hi1
    have M1 := Lib.hid m1
    clear hrd hi1 hq m1
    go_wp2_with fail
    go_loopw [3, 9] (fun nv iv wr => ∃ k : Nat, k ≤ hh.length ∧ nv = V64 (be64 (hh.take k)) ∧ iv = .int .i64 k ∧ wr = w1) (fun _ iv _ => hh.length - (intOf iv).toNat)
    case atStart => exact ⟨0, by omega, rfl, rfl, rfl⟩
    case round =>
      obtain ⟨k, hk, rfl, rfl, hw⟩ := hrel
      have hw' := hw.symm
      clear hw
      subst hw'
      by_cases hkl : k < hh.length
      · obtain ⟨x, hx⟩ : ∃ x, hh[k]? = some x := ⟨hh[k], List.getElem?_eq_getElem hkl⟩
        obtain ⟨b, o, rfl, hc⟩ := HRD.out.cell k x hx
        have HB := Lib.hid (be64_succ hh k x hx)
        clear hx
        go_wp2_with fail
        go_roundw
        case rel => exact ⟨k + 1, by omega, by rw [HB.out], by go_num, trivial⟩
        case measure => simp [intOf]; omega
      · have hd : decide ((k : Int) < (hh.length : Int)) = false := by simp; omega
        have hkk : hh.take k = hh := List.take_of_length_le (by omega)
        rw [hkk]
        clear hkk
        have hlt64 : decide (be64 hh < 9223372036854775808) = false := by
          rw [decide_eq_false_iff_not, UInt64.lt_iff_toNat_lt, H64.out]; exact hlt
        go_wp2_with fail
        refine (need_no _ _).mono ?_
        rintro e w3 ⟨rfl, rfl⟩
        exact ⟨rfl, GaveUp.on HI1.out M1.out⟩
end Go.Proofs.Ytnmcbdppbpfegaa
