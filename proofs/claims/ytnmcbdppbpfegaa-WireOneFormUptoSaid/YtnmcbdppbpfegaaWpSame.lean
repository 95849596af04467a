/- same, begins, size of wire's laws; a step in a box. Condition: at most 2^40 bytes. -/
import Derived.Test.YtnmcbdppbpfegaaWpFns
namespace Go.Proofs.Ytnmcbdppbpfegaa
open Go.RowKit
attribute [local go_sem high] one8 st8 cm8 b_and8 b_and8r b_and8l b_or8 b_or8r b_or8l b_xor8 b_xor8r b_xor8l b_andNot8 b_andNot8r b_andNot8l b_add8 b_add8r b_add8l b_sub8 b_sub8r b_sub8l b_mul8 b_mul8r b_mul8l b_eql8 b_eql8r b_eql8l b_neq8 b_neq8r b_neq8l b_lss8 b_lss8r b_lss8l b_leq8 b_leq8r b_leq8l b_gtr8 b_gtr8r b_gtr8l b_geq8 b_geq8r b_geq8l b_quo8r b_rem8r b_shl8r b_shr8r b_shl8l b_shr8l u_xor8 g_eql8 g_neq8 g_eql8' g_neq8' one32 st32 cm32 b_and32 b_and32r b_and32l b_or32 b_or32r b_or32l b_xor32 b_xor32r b_xor32l b_andNot32 b_andNot32r b_andNot32l b_add32 b_add32r b_add32l b_sub32 b_sub32r b_sub32l b_mul32 b_mul32r b_mul32l b_eql32 b_eql32r b_eql32l b_neq32 b_neq32r b_neq32l b_lss32 b_lss32r b_lss32l b_leq32 b_leq32r b_leq32l b_gtr32 b_gtr32r b_gtr32l b_geq32 b_geq32r b_geq32l b_quo32r b_rem32r b_shl32r b_shr32r b_shl32l b_shr32l u_xor32 g_eql32 g_neq32 g_eql32' g_neq32' one64 st64 cm64 b_and64 b_and64r b_and64l b_or64 b_or64r b_or64l b_xor64 b_xor64r b_xor64l b_andNot64 b_andNot64r b_andNot64l b_add64 b_add64r b_add64l b_sub64 b_sub64r b_sub64l b_mul64 b_mul64r b_mul64l b_eql64 b_eql64r b_eql64l b_neq64 b_neq64r b_neq64l b_lss64 b_lss64r b_lss64l b_leq64 b_leq64r b_leq64l b_gtr64 b_gtr64r b_gtr64l b_geq64 b_geq64r b_geq64l b_quo64r b_rem64r b_shl64r b_shr64r b_shl64l b_shr64l u_xor64 g_eql64 g_neq64 g_eql64' g_neq64' c_u8_u8 c_u8_u32 c_u8_u64 c_i_u8 c_u32_u8 c_u32_u32 c_u32_u64 c_i_u32 c_u64_u8 c_u64_u32 c_u64_u64 c_i_u64 c_u8_i c_u32_i
attribute [local go_sem ↓] ce8 ce32 ce64
attribute [local go_sem ↓] sliced_slp
set_option maxRecDepth 100000 in
theorem same_len (p q : Option Addr) (cp cq : Nat) (a b : List UInt8) (w : World) (hp : Rd V8 w p cp a) (hq : Rd V8 w q cq b) (hl : a.length ≤ 1099511627776) (he : a.length = b.length) :
    Calls Try.prog 28 #[.slice p a.length cp, .slice q a.length cq] w fun e w' => e = .returned (.bool (decide (a = b))) ∧ ∃ n, w' = w.drewN n := by
  have HP := Lib.hid hp
  have HQ := Lib.hid hq
  have HE := Lib.hid he
  obtain ⟨r, hr⟩ : ∃ r, r = decide (a = b) := ⟨_, rfl⟩
  have HR := Lib.hid hr
  rw [← hr]
  clear hp hq he hr
  go_enter Try.func28, Try.ntmps28
  go_wp2_with fail
  go_loopw [5] (fun iv wr => ∃ k : Nat, k ≤ a.length ∧ iv = .int .i64 k ∧ a.take k = b.take k ∧ ∃ n, wr = w.drewN n) (fun iv _ => a.length - (intOf iv).toNat)
  case atStart => exact ⟨0, by omega, rfl, rfl, 0, rfl⟩
  case round =>
    obtain ⟨k, hk, rfl, ht, hm⟩ := hrel
    have HT := Lib.hid ht
    have hm' : Mod [] w wr := by obtain ⟨n, rfl⟩ := hm; exact (Mod.refl [] w).drewN n
    have HM := Lib.hid hm
    clear ht hm
    by_cases hlt : k < a.length
    · obtain ⟨x, hx⟩ : ∃ x, a[k]? = some x := ⟨a[k], List.getElem?_eq_getElem hlt⟩
      obtain ⟨y, hy⟩ : ∃ y, b[k]? = some y := ⟨b[k]'(by rw [← HE.out]; exact hlt), List.getElem?_eq_getElem _⟩
      obtain ⟨b1, o1, rfl, hr1⟩ := (HP.out.mod0 hm').cell k x hx
      obtain ⟨b2, o2, rfl, hr2⟩ := (HQ.out.mod0 hm').cell k y hy
      have HX := Lib.hid hx
      have HY := Lib.hid hy
      clear hx hy
      by_cases hxy : x = y
      · subst hxy
        go_wp2_with fail
        go_quiet (fail)
        go_wp2_with fail
        go_roundw
        case rel => exact ⟨k + 1, by omega, by go_num, by rw [List.take_add_one, List.take_add_one, HX.out, HY.out, HT.out], by obtain ⟨n, hn⟩ := HM.out; exact ⟨n + nq, by rw [hn, World.drewN_drewN]⟩⟩
        case measure => simp [intOf]; omega
      · have hd : (x != y) = true := by simpa using hxy
        have HXY := Lib.hid hxy
        clear hxy
        go_wp2_with fail
        go_quiet (fail)
        go_wp2_with fail
        go_ret
        refine ⟨?_, by obtain ⟨n, hn⟩ := HM.out; exact ⟨n + nq, by rw [hn, World.drewN_drewN]⟩⟩
        have : r = false := by
          rw [HR.out, decide_eq_false_iff_not]
          intro h
          have h1 := HX.out
          rw [h, HY.out] at h1
          exact HXY.out (Option.some.inj h1).symm
        rw [this]; rfl
    · have hd : decide ((k : Int) < (a.length : Int)) = false := by simp; omega
      go_wp2_with fail
      go_ret
      refine ⟨?_, HM.out⟩
      have : r = true := by
        rw [HR.out, decide_eq_true_eq]
        have h := HT.out
        rwa [List.take_of_length_le (by omega), List.take_of_length_le (by rw [← HE.out]; omega)] at h
      rw [this]; rfl
theorem same_any (p q : Option Addr) (cp cq : Nat) (a b : List UInt8) (w : World) (hp : Rd V8 w p cp a) (hq : Rd V8 w q cq b) (hl : a.length ≤ 1099511627776) :
    Calls Try.prog 28 #[.slice p a.length cp, .slice q b.length cq] w fun e w' => e = .returned (.bool (decide (a = b))) ∧ ∃ n, w' = w.drewN n := by
  by_cases he : a.length = b.length
  · rw [← he]
    exact same_len p q cp cq a b w hp hq hl he
  · have hr : decide (a = b) = false := by rw [decide_eq_false_iff_not]; rintro rfl; exact he rfl
    rw [hr]
    have hd : ((a.length : Int) != (b.length : Int)) = true := by simp only [bne_iff_ne, ne_eq]; omega
    have hd2 : (a.length != b.length) = true := by simpa using he
    clear hp hq
    go_enter Try.func28, Try.ntmps28
    go_wp2_with fail
    go_ret
    exact ⟨rfl, 0, rfl⟩
/-- Does one begin the other? -/
def bg (a b : List UInt8) : Bool := decide (a.length ≤ b.length) && decide (a = b.take a.length)
theorem begins_any (p q : Option Addr) (cp cq : Nat) (a b : List UInt8) (w : World) (hp : Rd V8 w p cp a) (hq : Rd V8 w q cq b) (hl : a.length ≤ 1099511627776) :
    Calls Try.prog 27 #[.slice p a.length cp, .slice q b.length cq] w fun e w' => e = .returned (.bool (bg a b)) ∧ ∃ n, w' = w.drewN n := by
  unfold bg
  by_cases he : a.length ≤ b.length
  · have hd : decide (a.length ≤ b.length) = true := by simpa using he
    have htl : (b.take a.length).length = a.length := List.length_take_of_le he
    have hS := same_any p q cp cq a (b.take a.length) w hp (hq.take _) hl
    rw [htl] at hS
    have HS := Lib.hid hS
    have hcq := hq.le
    have hcq2 : a.length ≤ cq := by omega
    rw [hd, Bool.true_and]
    clear hp hq hS htl
    go_enter Try.func27, Try.ntmps27
    go_wp2_with fail
    refine HS.out.mono ?_
    rintro e w1 ⟨rfl, hw⟩
    go_wp2_with fail
    go_ret
    exact ⟨rfl, hw⟩
  · have hd : decide (a.length ≤ b.length) = false := by simpa using he
    rw [hd, Bool.false_and]
    clear hp hq
    go_enter Try.func27, Try.ntmps27
    go_wp2_with fail
    go_ret
    exact ⟨rfl, 0, rfl⟩
end Go.Proofs.Ytnmcbdppbpfegaa
