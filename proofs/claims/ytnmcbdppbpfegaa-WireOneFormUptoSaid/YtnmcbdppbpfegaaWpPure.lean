/- No form begins another of its kind. No program in sight. No condition. -/
import Derived.Test.YtnmcbdppbpfegaaWpApart
namespace Go.Proofs.Ytnmcbdppbpfegaa
open Go.RowKit
attribute [local go_sem high] one8 st8 cm8 b_and8 b_and8r b_and8l b_or8 b_or8r b_or8l b_xor8 b_xor8r b_xor8l b_andNot8 b_andNot8r b_andNot8l b_add8 b_add8r b_add8l b_sub8 b_sub8r b_sub8l b_mul8 b_mul8r b_mul8l b_eql8 b_eql8r b_eql8l b_neq8 b_neq8r b_neq8l b_lss8 b_lss8r b_lss8l b_leq8 b_leq8r b_leq8l b_gtr8 b_gtr8r b_gtr8l b_geq8 b_geq8r b_geq8l b_quo8r b_rem8r b_shl8r b_shr8r b_shl8l b_shr8l u_xor8 g_eql8 g_neq8 g_eql8' g_neq8' one32 st32 cm32 b_and32 b_and32r b_and32l b_or32 b_or32r b_or32l b_xor32 b_xor32r b_xor32l b_andNot32 b_andNot32r b_andNot32l b_add32 b_add32r b_add32l b_sub32 b_sub32r b_sub32l b_mul32 b_mul32r b_mul32l b_eql32 b_eql32r b_eql32l b_neq32 b_neq32r b_neq32l b_lss32 b_lss32r b_lss32l b_leq32 b_leq32r b_leq32l b_gtr32 b_gtr32r b_gtr32l b_geq32 b_geq32r b_geq32l b_quo32r b_rem32r b_shl32r b_shr32r b_shl32l b_shr32l u_xor32 g_eql32 g_neq32 g_eql32' g_neq32' one64 st64 cm64 b_and64 b_and64r b_and64l b_or64 b_or64r b_or64l b_xor64 b_xor64r b_xor64l b_andNot64 b_andNot64r b_andNot64l b_add64 b_add64r b_add64l b_sub64 b_sub64r b_sub64l b_mul64 b_mul64r b_mul64l b_eql64 b_eql64r b_eql64l b_neq64 b_neq64r b_neq64l b_lss64 b_lss64r b_lss64l b_leq64 b_leq64r b_leq64l b_gtr64 b_gtr64r b_gtr64l b_geq64 b_geq64r b_geq64l b_quo64r b_rem64r b_shl64r b_shr64r b_shl64l b_shr64l u_xor64 g_eql64 g_neq64 g_eql64' g_neq64' c_u8_u8 c_u8_u32 c_u8_u64 c_i_u8 c_u32_u8 c_u32_u32 c_u32_u64 c_i_u32 c_u64_u8 c_u64_u32 c_u64_u64 c_i_u64 c_u8_i c_u32_i
attribute [local go_sem ↓] ce8 ce32 ce64
theorem bg_iff (a b : List UInt8) : bg a b = true ↔ a <+: b := by
  unfold bg
  rw [Bool.and_eq_true, decide_eq_true_eq, decide_eq_true_eq]
  constructor
  · rintro ⟨_, h⟩; rw [h]; exact List.take_prefix _ _
  · intro h; exact ⟨h.length_le, List.prefix_iff_eq_take.1 h⟩
theorem bare_eq (l : List UInt8) : l = List.replicate (l.length - (bare l).length) 0 ++ bare l := by
  induction l with
  | nil => rfl
  | cons x l ih =>
    unfold bare
    split
    · rename_i h
      subst h
      have hb := bare_length l
      rw [List.length_cons, Nat.succ_sub hb, List.replicate_succ, List.cons_append, ← ih]
    · simp
theorem bare_inj {a b : List UInt8} (h : bare a = bare b) (hl : a.length = b.length) : a = b := by
  rw [bare_eq a, bare_eq b, h, hl]
theorem short_pre {a b u v : List UInt8} (ha : a.length ≤ 255) (hb : b.length ≤ 255) (h : short a ++ u <+: short b ++ v) : bare a = bare b ∧ u <+: v := by
  obtain ⟨t, ht⟩ := h
  have la := bare_length a
  have lb := bare_length b
  simp only [short, List.cons_append, List.append_assoc, List.cons.injEq] at ht
  obtain ⟨h1, h2⟩ := ht
  have h3 := congrArg UInt8.toNat h1
  rw [UInt8.toNat_ofNat', UInt8.toNat_ofNat', Nat.mod_eq_of_lt (by omega), Nat.mod_eq_of_lt (by omega)] at h3
  obtain ⟨h4, h5⟩ := List.append_inj h2 h3
  exact ⟨h4, t, h5⟩
theorem pre_nil (a b : List UInt8) (h : a <+: b) : a ++ [] <+: b ++ [] := by simpa using h
theorem pre_len {a b : List UInt8} (h : a <+: b) (hl : a.length = b.length) : a = b := h.eq_of_length hl
theorem be8_inj {n m : Nat} (hn : n < 18446744073709551616) (hm : m < 18446744073709551616) (h : be8 n = be8 m) : n = m := by
  unfold be8 at h
  have hi := List.map_inj_left.1 h
  have e : ∀ i, i < 8 → (n >>> (56 - 8 * i)) % 256 = (m >>> (56 - 8 * i)) % 256 := by
    intro i hi8
    have := congrArg UInt8.toNat (hi i (List.mem_range.2 hi8))
    simpa [UInt8.toNat_ofNat'] using this
  have e0 := e 0 (by omega)
  have e1 := e 1 (by omega)
  have e2 := e 2 (by omega)
  have e3 := e 3 (by omega)
  have e4 := e 4 (by omega)
  have e5 := e 5 (by omega)
  have e6 := e 6 (by omega)
  have e7 := e 7 (by omega)
  simp only [Nat.shiftRight_eq_div_pow, Nat.reduceMul, Nat.reduceSub, Nat.reducePow] at e0 e1 e2 e3 e4 e5 e6 e7
  omega
theorem form_pre {n m : Nat} {u v : List UInt8} (hn : n < 18446744073709551616) (hm : m < 18446744073709551616) (h : form n ++ u <+: form m ++ v) : n = m ∧ u <+: v := by
  obtain ⟨h1, h2⟩ := short_pre (by rw [be8_length]; omega) (by rw [be8_length]; omega) h
  exact ⟨be8_inj hn hm (bare_inj h1 (by rw [be8_length, be8_length])), h2⟩
theorem w64_inj {x y : UInt64} (h : ∀ j, j < 8 → (x >>> UInt64.ofNat (56 - 8 * j)).toUInt8 = (y >>> UInt64.ofNat (56 - 8 * j)).toUInt8) : x = y := by
  have e : ∀ j, j < 8 → (x.toNat >>> (56 - 8 * j)) % 256 = (y.toNat >>> (56 - 8 * j)) % 256 := by
    intro j hj
    have h1 := congrArg UInt8.toNat (h j hj)
    simp only [UInt64.toNat_toUInt8, UInt64.toNat_shiftRight, UInt64.toNat_ofNat'] at h1
    rw [Nat.mod_eq_of_lt (show 56 - 8 * j < 2 ^ 64 by omega), Nat.mod_eq_of_lt (show 56 - 8 * j < 64 by omega)] at h1
    exact h1
  have hx := x.toNat_lt
  have hy := y.toNat_lt
  have e0 := e 0 (by omega)
  have e1 := e 1 (by omega)
  have e2 := e 2 (by omega)
  have e3 := e 3 (by omega)
  have e4 := e 4 (by omega)
  have e5 := e 5 (by omega)
  have e6 := e 6 (by omega)
  have e7 := e 7 (by omega)
  simp only [Nat.shiftRight_eq_div_pow, Nat.reduceMul, Nat.reduceSub, Nat.reducePow] at e0 e1 e2 e3 e4 e5 e6 e7
  rw [← UInt64.toNat_inj]
  omega
theorem be32_inj {a b : List UInt64} (ha : a.length = 4) (hb : b.length = 4) (h : be32 a = be32 b) : a = b := by
  unfold be32 at h
  have hi := List.map_inj_left.1 h
  have e : ∀ k, k < 4 → a[k]?.getD 0 = b[k]?.getD 0 := by
    intro k hk
    refine w64_inj fun j hj => ?_
    have := hi (8 * (3 - k) + j) (List.mem_range.2 (by omega))
    rw [show 3 - (8 * (3 - k) + j) / 8 = k by omega, show (8 * (3 - k) + j) % 8 = j by omega] at this
    exact this
  refine List.ext_getElem (by rw [ha, hb]) fun k h1 h2 => ?_
  have := e k (by omega)
  rwa [List.getElem?_eq_getElem h1, List.getElem?_eq_getElem h2] at this
/-- When are two values of a kind like? -/
def like (a b : Sp) : Nat → Prop
  | 0 => byteOf a.n = byteOf b.n
  | 1 => oddOf a.n = oddOf b.n
  | 2 => pk a.n 9223372036854775807 = pk b.n 9223372036854775807
  | 3 => a.b = b.b
  | 4 => a.w.1 = b.w.1
  | 5 => firstN 32 a.b = firstN 32 b.b
  | _ => firstN 20 a.b = firstN 20 b.b
theorem like_symm {a b : Sp} {k : Nat} (h : like a b k) : like b a k := by
  unfold like at h ⊢
  split at h <;> exact h.symm
theorem apB_iff (a b : Sp) : ∀ k, k < 7 → (apB a b k = false ↔ like a b k)
  | 0, _ => by simp [apB, like]
  | 1, _ => by simp [apB, like]
  | 2, _ => by
    rw [apB_2]
    simp only [like, bne_eq_false_iff_eq, Int.natCast_inj]
  | 3, _ => by simp [apB, like]
  | 4, _ => by simp [apB, like]
  | 5, _ => by simp [apB, like]
  | 6, _ => by simp [apB, like]
theorem pk_max (n : Int) : pk n 9223372036854775807 < 18446744073709551616 := by
  have := pk_lt n 9223372036854775807 (by decide)
  omega
theorem form_like (a b : Sp) : ∀ k, k < 7 → like a b k → a.form k = b.form k
  | 0, _, h => by have h : byteOf a.n = byteOf b.n := h; simp only [Sp.form, h]
  | 1, _, h => by have h : oddOf a.n = oddOf b.n := h; simp only [Sp.form, h]
  | 2, _, h => by simp only [like] at h; simp only [Sp.form, h]
  | 3, _, h => by have h : a.b = b.b := h; simp only [Sp.form, h]
  | 4, _, h => by have h : a.w.1 = b.w.1 := h; simp only [Sp.form, h]
  | 5, _, h => h
  | 6, _, h => h
theorem pre_like (a b : Sp) (ha : a.b.length ≤ 549755813888) (hb : b.b.length ≤ 549755813888) : ∀ k, k < 7 → a.form k <+: b.form k → like a b k
  | 0, _, h => by have h := pre_len h rfl; simpa [Sp.form, like] using h
  | 1, _, h => by
    have h := pre_len h rfl
    simp only [Sp.form, List.cons.injEq, and_true] at h
    show oddOf a.n = oddOf b.n
    cases h1 : oddOf a.n <;> cases h2 : oddOf b.n <;> rw [h1, h2] at h <;> first | rfl | (revert h; decide)
  | 2, _, h => by
    simp only [Sp.form] at h
    simp only [like]
    exact (form_pre (pk_max _) (pk_max _) (pre_nil _ _ h)).1
  | 3, _, h => by
    simp only [Sp.form] at h
    obtain ⟨h1, h2⟩ := form_pre (by omega) (by omega) h
    exact pre_len h2 h1
  | 4, _, h => by
    simp only [Sp.form] at h
    have h1 := (short_pre (by rw [be32_length]; omega) (by rw [be32_length]; omega) (pre_nil _ _ h)).1
    exact be32_inj a.w.2 b.w.2 (bare_inj h1 (by rw [be32_length, be32_length]))
  | 5, _, h => pre_len h (by simp [Sp.form, firstN_length])
  | 6, _, h => pre_len h (by simp [Sp.form, firstN_length])
theorem form_len (a : Sp) (h : a.b.length ≤ 1048576) : ∀ k, k < 7 → 0 < (a.form k).length ∧ (a.form k).length ≤ 4194304
  | 0, _ => by simp [Sp.form]
  | 1, _ => by simp [Sp.form]
  | 2, _ => by
    simp only [Sp.form]
    have := form_length (pk a.n 9223372036854775807)
    exact ⟨by simp [form, short], by omega⟩
  | 3, _ => by
    simp only [Sp.form, List.length_append]
    have := form_length a.b.length
    exact ⟨by simp only [form, short, List.length_cons]; omega, by omega⟩
  | 4, _ => by
    simp only [Sp.form]
    have := short_length (be32 a.w.1)
    rw [be32_length] at this
    exact ⟨by simp [short], by omega⟩
  | 5, _ => by simp [Sp.form, firstN_length]
  | 6, _ => by simp [Sp.form, firstN_length]
/-- What the law asks of two forms. -/
theorem unlike_apart (a b : Sp) (ha : a.b.length ≤ 549755813888) (hb : b.b.length ≤ 549755813888) (k : Nat) (hk : k < 7) (h : apB a b k = true) : bg (a.form k) (b.form k) = false ∧ bg (b.form k) (a.form k) = false := by
  have hn : ¬ like a b k := fun hl => by rw [(apB_iff a b k hk).2 hl] at h; exact Bool.noConfusion h
  constructor
  · rw [← Bool.not_eq_true, bg_iff]; exact fun hp => hn (pre_like a b ha hb k hk hp)
  · rw [← Bool.not_eq_true, bg_iff]; exact fun hp => hn (like_symm (pre_like b a hb ha k hk hp))
theorem alike_same (a b : Sp) (k : Nat) (hk : k < 7) (h : apB a b k = false) : a.form k = b.form k := form_like a b k hk ((apB_iff a b k hk).1 h)
end Go.Proofs.Ytnmcbdppbpfegaa
