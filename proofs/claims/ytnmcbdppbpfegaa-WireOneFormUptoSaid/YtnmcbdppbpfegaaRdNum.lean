/- The document's reader: high where all is well, Number. Condition: at most 2^22 bytes where there is no fault. -/
import Derived.Test.YtnmcbdppbpfegaaRdHigh
import Derived.Test.YtnmcbdppbpfegaaRrCalls
namespace Go.Proofs.Ytnmcbdppbpfegaa
open Go.RowKit
attribute [local go_sem high] one8 st8 cm8 b_and8 b_and8r b_and8l b_or8 b_or8r b_or8l b_xor8 b_xor8r b_xor8l b_andNot8 b_andNot8r b_andNot8l b_add8 b_add8r b_add8l b_sub8 b_sub8r b_sub8l b_mul8 b_mul8r b_mul8l b_eql8 b_eql8r b_eql8l b_neq8 b_neq8r b_neq8l b_lss8 b_lss8r b_lss8l b_leq8 b_leq8r b_leq8l b_gtr8 b_gtr8r b_gtr8l b_geq8 b_geq8r b_geq8l b_quo8r b_rem8r b_shl8r b_shr8r b_shl8l b_shr8l u_xor8 g_eql8 g_neq8 g_eql8' g_neq8' one32 st32 cm32 b_and32 b_and32r b_and32l b_or32 b_or32r b_or32l b_xor32 b_xor32r b_xor32l b_andNot32 b_andNot32r b_andNot32l b_add32 b_add32r b_add32l b_sub32 b_sub32r b_sub32l b_mul32 b_mul32r b_mul32l b_eql32 b_eql32r b_eql32l b_neq32 b_neq32r b_neq32l b_lss32 b_lss32r b_lss32l b_leq32 b_leq32r b_leq32l b_gtr32 b_gtr32r b_gtr32l b_geq32 b_geq32r b_geq32l b_quo32r b_rem32r b_shl32r b_shr32r b_shl32l b_shr32l u_xor32 g_eql32 g_neq32 g_eql32' g_neq32' one64 st64 cm64 b_and64 b_and64r b_and64l b_or64 b_or64r b_or64l b_xor64 b_xor64r b_xor64l b_andNot64 b_andNot64r b_andNot64l b_add64 b_add64r b_add64l b_sub64 b_sub64r b_sub64l b_mul64 b_mul64r b_mul64l b_eql64 b_eql64r b_eql64l b_neq64 b_neq64r b_neq64l b_lss64 b_lss64r b_lss64l b_leq64 b_leq64r b_leq64l b_gtr64 b_gtr64r b_gtr64l b_geq64 b_geq64r b_geq64l b_quo64r b_rem64r b_shl64r b_shr64r b_shl64l b_shr64l u_xor64 g_eql64 g_neq64 g_eql64' g_neq64' c_u8_u8 c_u8_u32 c_u8_u64 c_i_u8 c_u32_u8 c_u32_u32 c_u32_u64 c_i_u32 c_u64_u8 c_u64_u32 c_u64_u64 c_i_u64 c_u8_i c_u32_i
attribute [local go_sem ↓] ce8 ce32 ce64
attribute [local go_sem ↓] sliced_slp
/-- Behind 'high' of the document's reader where all is well. -/
def DHighP (g n cap : Nat) (p : Option Addr) (R : Rr) (h : List UInt8) (w : World) (e : Ending) (w' : World) : Prop :=
  ∃ q c, e = .returned (.slice q h.length c) ∧ Rd V8 w' q c h ∧ Off q [g] ∧ IsD w' g p n cap { R with at_ := R.at_ + (1 + h.length) } ∧ Mod [g] w w'
set_option maxRecDepth 100000 in
theorem dhigh_yes (g n cap : Nat) (p : Option Addr) (R : Rr) (w : World) (h : IsD w g p n cap R) (he : R.e = 0) (m : Int) (most : Nat) (hm : m = (most : Int)) (hh : List UInt8) (hp : highP most (R.b.drop R.at_) = .ok hh) :
    Calls Try.prog 41 #[.pointer (some ⟨g, 0, none⟩), .int .i64 m] w (DHighP g n cap p R hh w) := by
  subst hm
  obtain ⟨_, _, _, hl1, hl2⟩ := h.rd he
  have c1 := h.c1
  have HE := Lib.hid he
  cases hd : R.b.drop R.at_ with
  | nil => rw [hd] at hp; cases hp
  | cons k r =>
    obtain ⟨hl, hdr, hrl⟩ := drop_cons hd
    have hkt := k.toNat_lt
    have HB := Lib.hid (dbyte_yes g n cap p R w h he k r hd)
    rw [hd] at hp
    simp only [highP] at hp
    clear h hd he
    split at hp
    · cases hp
    rename_i hmk
    have d1 : decide (most < k.toNat) = false := by simpa using hmk
    split at hp
    · cases hp
    rename_i hkl
    split at hp
    · cases hp
    rename_i hz
    injection hp with hp
    have hhl : hh.length = k.toNat := by rw [← hp]; simp; omega
    have HP := Lib.hid hp
    have HDR := Lib.hid hdr
    have HHL := Lib.hid hhl
    clear hp hdr hhl
    unfold DHighP
    rw [HHL.out]
    go_enter Try.func41, Try.ntmps41
    go_wp2_with fail
    refine HB.out.mono ?_
    rintro e w1 ⟨rfl, hi, hm1⟩
    have c2 := hi.c2
    rw [show ({ R with at_ := R.at_ + 1 } : Rr).e = 0 from HE.out] at c2
    have HF := Lib.hid (fixed_yes g n cap p _ w1 hi HE.out k.toNat (by show k.toNat ≤ R.b.length - (R.at_ + 1); omega))
    clear hi c1 HB
    go_wp2_with fail
    refine HF.out.mono ?_
    rintro e w3 ⟨q, c, rfl, hrd, hoff, _, hi, hm2⟩
    have hrd' : Rd V8 w3 q c hh := by
      have e2 : (R.b.drop (R.at_ + 1)).take k.toNat = hh := by rw [HDR.out]; exact HP.out
      rw [← e2]; exact hrd
    have k2 := hi.c2
    rw [show ({ R with at_ := R.at_ + 1 + k.toNat } : Rr).e = 0 from HE.out] at k2
    have HI := Lib.hid (show IsD w3 g p n cap { R with at_ := R.at_ + (1 + k.toNat) } by rw [← Nat.add_assoc]; exact hi)
    have HRD := Lib.hid hrd'
    have HOFF := Lib.hid hoff
    have M2 := Lib.hid (hm1.trans hm2 (fun x hx => .inl hx))
    clear hi hrd hrd' hoff c2 HF hm1 hm2
    by_cases hk0 : k = 0
    · subst hk0
      go_wp2_with fail
      go_ret
      exact ⟨_, _, rfl, HRD.out, HOFF.out, HI.out, M2.out⟩
    · have hkp : 0 < k.toNat := by
        rcases Nat.eq_zero_or_pos k.toNat with e | e
        · exact absurd (UInt8.toNat_inj.1 (by simpa using e)) hk0
        · exact e
      obtain ⟨x, hx0⟩ : ∃ x, hh[0]? = some x := ⟨hh[0]'(by rw [HHL.out]; exact hkp), List.getElem?_eq_getElem _⟩
      have hxz : (x == 0) = false := by
        simp only [beq_eq_false_iff_ne, ne_eq]
        intro e
        subst e
        refine hz ⟨hk0, ?_⟩
        rw [← HP.out, List.getElem?_take, if_pos hkp] at hx0
        rw [List.head?_eq_getElem?]; exact hx0
      obtain ⟨b2, o2, rfl, hc2⟩ := HRD.out.cell 0 x hx0
      rw [Nat.add_zero] at hc2
      clear hx0 hz
      go_wp2_with fail
      go_ret
      exact ⟨_, _, rfl, HRD.out, HOFF.out, HI.out, M2.out⟩
/-- The bytes of a number, one by one. -/
theorem beN_fold : ∀ (l : List UInt8) (n : Nat), l.foldl (fun n c => n * 256 + c.toNat) n = n * 256 ^ l.length + beN l
  | [], n => by simp [beN]
  | x :: l, n => by
    have h1 := beN_fold l (n * 256 + x.toNat)
    have h2 := beN_fold l (0 * 256 + x.toNat)
    unfold beN at h1 h2 ⊢
    rw [List.foldl_cons, List.foldl_cons, h1, h2, List.length_cons, Nat.pow_succ]
    generalize List.foldl (fun n c => n * 256 + c.toNat) 0 l = z
    generalize 256 ^ l.length = P
    rw [Nat.add_mul, Nat.zero_mul, Nat.zero_add, Nat.mul_assoc, Nat.mul_comm 256 P, Nat.add_assoc]
theorem beN_take_le (l : List UInt8) (k : Nat) : beN (l.take k) ≤ beN l := by
  have h := beN_fold (l.drop k) (beN (l.take k))
  have e : beN l = (l.drop k).foldl (fun n c => n * 256 + c.toNat) (beN (l.take k)) := by
    unfold beN
    rw [← List.foldl_append, List.take_append_drop]
  rw [e, h]
  have : 1 ≤ 256 ^ (l.drop k).length := Nat.pow_pos (by decide)
  have := Nat.mul_le_mul_left (beN (l.take k)) this
  omega
theorem beN_take_succ (l : List UInt8) (k : Nat) (x : UInt8) (h : l[k]? = some x) : beN (l.take (k + 1)) = beN (l.take k) * 256 + x.toNat := by
  rw [List.take_add_one, h]
  exact beN_snoc _ _
/-- Eight bytes are too many where the first is above 127. -/
theorem beN_big (x : UInt8) (t : List UInt8) (h : (x :: t).length ≤ 8) : beN (x :: t) < 9223372036854775808 ↔ ¬ ((x :: t).length = 8 ∧ 127 < x) := by
  have h1 := beN_fold t (0 * 256 + x.toNat)
  have e : beN (x :: t) = x.toNat * 256 ^ t.length + beN t := by
    unfold beN at h1 ⊢
    rw [List.foldl_cons, h1, Nat.zero_mul, Nat.zero_add]
  have h2 := beN_lt t
  have hx := x.toNat_lt
  rw [List.length_cons] at h ⊢
  rw [UInt8.lt_iff_toNat_lt, show (127 : UInt8).toNat = 127 from rfl]
  by_cases h8 : t.length = 7
  · rw [h8] at e h2
    rw [e, h8]
    constructor
    · intro hlt hh
      have := hh.2
      omega
    · intro hn
      have : ¬ 127 < x.toNat := fun hh => hn ⟨rfl, hh⟩
      omega
  · constructor
    · intro _ hh
      exact h8 (by have := hh.1; omega)
    · intro _
      rw [e]
      have h3 : 256 ^ t.length ≤ 256 ^ 6 := Nat.pow_le_pow_right (by decide) (by omega)
      have h4 : x.toNat * 256 ^ t.length ≤ 255 * 256 ^ 6 := Nat.mul_le_mul (by omega) h3
      omega
end Go.Proofs.Ytnmcbdppbpfegaa
