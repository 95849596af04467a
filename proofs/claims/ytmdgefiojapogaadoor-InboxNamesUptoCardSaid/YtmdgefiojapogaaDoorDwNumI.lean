/- bare of the document's writer. Condition: at most 2^20 bytes. -/
import Derived.Test.YtmdgefiojapogaaDoorDwOneI
namespace Go.Proofs.YtmdgefiojapogaaDoor
open Go.RowKit
attribute [local go_sem high] one8 st8 cm8 b_and8 b_and8r b_and8l b_or8 b_or8r b_or8l b_xor8 b_xor8r b_xor8l b_andNot8 b_andNot8r b_andNot8l b_add8 b_add8r b_add8l b_sub8 b_sub8r b_sub8l b_mul8 b_mul8r b_mul8l b_eql8 b_eql8r b_eql8l b_neq8 b_neq8r b_neq8l b_lss8 b_lss8r b_lss8l b_leq8 b_leq8r b_leq8l b_gtr8 b_gtr8r b_gtr8l b_geq8 b_geq8r b_geq8l b_quo8r b_rem8r b_shl8r b_shr8r b_shl8l b_shr8l u_xor8 g_eql8 g_neq8 g_eql8' g_neq8' one32 st32 cm32 b_and32 b_and32r b_and32l b_or32 b_or32r b_or32l b_xor32 b_xor32r b_xor32l b_andNot32 b_andNot32r b_andNot32l b_add32 b_add32r b_add32l b_sub32 b_sub32r b_sub32l b_mul32 b_mul32r b_mul32l b_eql32 b_eql32r b_eql32l b_neq32 b_neq32r b_neq32l b_lss32 b_lss32r b_lss32l b_leq32 b_leq32r b_leq32l b_gtr32 b_gtr32r b_gtr32l b_geq32 b_geq32r b_geq32l b_quo32r b_rem32r b_shl32r b_shr32r b_shl32l b_shr32l u_xor32 g_eql32 g_neq32 g_eql32' g_neq32' one64 st64 cm64 b_and64 b_and64r b_and64l b_or64 b_or64r b_or64l b_xor64 b_xor64r b_xor64l b_andNot64 b_andNot64r b_andNot64l b_add64 b_add64r b_add64l b_sub64 b_sub64r b_sub64l b_mul64 b_mul64r b_mul64l b_eql64 b_eql64r b_eql64l b_neq64 b_neq64r b_neq64l b_lss64 b_lss64r b_lss64l b_leq64 b_leq64r b_leq64l b_gtr64 b_gtr64r b_gtr64l b_geq64 b_geq64r b_geq64l b_quo64r b_rem64r b_shl64r b_shr64r b_shl64l b_shr64l u_xor64 g_eql64 g_neq64 g_eql64' g_neq64' c_u8_u8 c_u8_u32 c_u8_u64 c_i_u8 c_u32_u8 c_u32_u32 c_u32_u64 c_i_u32 c_u64_u8 c_u64_u32 c_u64_u64 c_i_u64 c_u8_i c_u32_i
attribute [local go_sem ↓] ce8 ce32 ce64
attribute [local go_sem ↓] sliced_slp
theorem bare_at (l : List UInt8) (i : Nat) (x : UInt8) (h : l[i]? = some x) (hb : bare (l.drop i) = bare l) : (x ≠ 0 → bare l = l.drop i) ∧ (x = 0 → bare (l.drop (i + 1)) = bare l) := by
  have hi := (List.getElem?_eq_some_iff.1 h).1
  have e : l.drop i = x :: l.drop (i + 1) := by
    rw [List.drop_eq_getElem_cons hi, (List.getElem?_eq_some_iff.1 h).2]
  rw [e] at hb ⊢
  constructor
  · intro hx; rw [← hb, bare, if_neg hx]
  · intro hx; rw [← hb, bare, if_pos hx]
theorem dbare_any (p : Option Addr) (cap : Nat) (l : List UInt8) (w : World) (hr : Rd V8 w p cap l) (hl : l.length ≤ 1048576) :
    Calls Tryd.prog 90 #[.slice p l.length cap] w fun e w' => ∃ q c, e = .returned (.slice q (bare l).length c) ∧ Rd V8 w q c (bare l) ∧ w' = w := by
  have HR := Lib.hid hr
  have hcap := hr.le
  clear hr
  go_enter Tryd.func90, Tryd.ntmps90
  go_wp2_with fail
  go_loopw [3] (fun iv wr => ∃ i : Nat, i ≤ l.length ∧ iv = .int .i64 i ∧ bare (l.drop i) = bare l ∧ wr = w) (fun iv _ => l.length - (intOf iv).toNat)
  case atStart => exact ⟨0, by omega, rfl, rfl, rfl⟩
  case round =>
    obtain ⟨i, hi, rfl, hb, hw⟩ := hrel
    have hw' := hw.symm
    clear hw
    subst hw'
    by_cases hlt : i < l.length
    · obtain ⟨x, hx⟩ : ∃ x, l[i]? = some x := ⟨l[i], List.getElem?_eq_getElem hlt⟩
      obtain ⟨h1, h2⟩ := bare_at l i x hx hb
      obtain ⟨b, o, rfl, hc⟩ := HR.out.cell i x hx
      have H1 := Lib.hid h1
      have H2 := Lib.hid h2
      have hic : i ≤ cap := by omega
      clear hx h1 h2 hb
      by_cases hx0 : x = 0
      · have dx : (x != 0) = false := by simp [hx0]
        have HX := Lib.hid hx0
        clear hx0
        go_wp2_with fail
        go_roundw
        case rel => exact ⟨i + 1, by omega, by go_num, H2.out HX.out, trivial⟩
        case measure => simp [intOf]; omega
      · have dx : (x != 0) = true := by simpa using hx0
        have HX := Lib.hid hx0
        clear hx0
        go_wp2_with fail
        go_ret
        have hrd := HR.out.drop i (by omega)
        rw [H1.out HX.out]
        exact ⟨_, _, by rw [List.length_drop]; rfl, hrd, rfl⟩
    · have hnl : ¬ (i < l.length) := hlt
      have hz : bare l = [] := by rw [← hb, List.drop_of_length_le (by omega)]; rfl
      have HZ := Lib.hid hz
      clear hz hb
      go_wp2_with fail
      go_ret
      exact ⟨none, 0, by rw [HZ.out]; rfl, by rw [HZ.out]; exact Rd.nil _ _ _ _, rfl⟩
end Go.Proofs.YtmdgefiojapogaaDoor
