/- high of a reader: the bytes of a number. Condition: at most 2^22 bytes. -/
import Derived.Test.YtnmcbdppbpfegaaRrMem
namespace Go.Proofs.Ytnmcbdppbpfegaa
open Go.RowKit
attribute [local go_sem high] one8 st8 cm8 b_and8 b_and8r b_and8l b_or8 b_or8r b_or8l b_xor8 b_xor8r b_xor8l b_andNot8 b_andNot8r b_andNot8l b_add8 b_add8r b_add8l b_sub8 b_sub8r b_sub8l b_mul8 b_mul8r b_mul8l b_eql8 b_eql8r b_eql8l b_neq8 b_neq8r b_neq8l b_lss8 b_lss8r b_lss8l b_leq8 b_leq8r b_leq8l b_gtr8 b_gtr8r b_gtr8l b_geq8 b_geq8r b_geq8l b_quo8r b_rem8r b_shl8r b_shr8r b_shl8l b_shr8l u_xor8 g_eql8 g_neq8 g_eql8' g_neq8' one32 st32 cm32 b_and32 b_and32r b_and32l b_or32 b_or32r b_or32l b_xor32 b_xor32r b_xor32l b_andNot32 b_andNot32r b_andNot32l b_add32 b_add32r b_add32l b_sub32 b_sub32r b_sub32l b_mul32 b_mul32r b_mul32l b_eql32 b_eql32r b_eql32l b_neq32 b_neq32r b_neq32l b_lss32 b_lss32r b_lss32l b_leq32 b_leq32r b_leq32l b_gtr32 b_gtr32r b_gtr32l b_geq32 b_geq32r b_geq32l b_quo32r b_rem32r b_shl32r b_shr32r b_shl32l b_shr32l u_xor32 g_eql32 g_neq32 g_eql32' g_neq32' one64 st64 cm64 b_and64 b_and64r b_and64l b_or64 b_or64r b_or64l b_xor64 b_xor64r b_xor64l b_andNot64 b_andNot64r b_andNot64l b_add64 b_add64r b_add64l b_sub64 b_sub64r b_sub64l b_mul64 b_mul64r b_mul64l b_eql64 b_eql64r b_eql64l b_neq64 b_neq64r b_neq64l b_lss64 b_lss64r b_lss64l b_leq64 b_leq64r b_leq64l b_gtr64 b_gtr64r b_gtr64l b_geq64 b_geq64r b_geq64l b_quo64r b_rem64r b_shl64r b_shr64r b_shl64l b_shr64l u_xor64 g_eql64 g_neq64 g_eql64' g_neq64' c_u8_u8 c_u8_u32 c_u8_u64 c_i_u8 c_u32_u8 c_u32_u32 c_u32_u64 c_i_u32 c_u64_u8 c_u64_u32 c_u64_u64 c_i_u64 c_u8_i c_u32_i
attribute [local go_sem ↓] ce8 ce32 ce64
attribute [local go_sem ↓] sliced_slp
/-- Behind a look that gave up: the place may have moved. -/
def GaveUp (B g : Nat) (v : Value) (R : Rr) (er : Int) (w : World) (e : Ending) (w' : World) : Prop :=
  e = .panicked [{ v := torn er, recovered := false }] ∧ (∃ at', IsR w' B g v { R with at_ := at' }) ∧ Mod [g] w w'
theorem GaveUp.same {B g : Nat} {v : Value} {R : Rr} {er : Int} {w w' : World} (h : IsR w B g v R) (hm : Mod [] w w') : GaveUp B g v R er w (.panicked [{ v := torn er, recovered := false }]) w' :=
  ⟨rfl, ⟨R.at_, h.mod0 hm⟩, hm.mono (by simp)⟩
theorem drop_cons {l : List UInt8} {i : Nat} {k : UInt8} {r : List UInt8} (h : l.drop i = k :: r) : i < l.length ∧ l.drop (i + 1) = r ∧ r.length = l.length - (i + 1) := by
  have hl : i < l.length := by
    rcases Nat.lt_or_ge i l.length with h' | h'
    · exact h'
    · rw [List.drop_eq_nil_of_le h'] at h; cases h
  rw [List.drop_eq_getElem_cons hl] at h
  injection h with h1 h2
  exact ⟨hl, h2, by rw [← h2]; simp⟩
/-- The number of bytes has been read: the place is one on. -/
def OneP (B g : Nat) (v : Value) (R : Rr) (k : UInt8) (w : World) (e : Ending) (w' : World) : Prop :=
  ∃ b o c, e = .returned (.slice (some ⟨b, o, none⟩) 1 c) ∧ w'.cell? ⟨b, o, none⟩ = some (V8 k) ∧ IsR w' B g v { R with at_ := R.at_ + 1 } ∧ Mod [g] w w'
theorem next_one (B g : Nat) (v : Value) (R : Rr) (w : World) (h : IsR w B g v R) (k : UInt8) (r : List UInt8) (hr : R.b.drop R.at_ = k :: r) :
    Calls Try.prog 99 #[.pointer (some ⟨g, 0, none⟩), .int .i64 1] w (OneP B g v R k w) := by
  obtain ⟨hl, h2, h3⟩ := drop_cons hr
  refine (next_any B g v R w h 1 (by omega)).mono ?_
  rintro e w1 ⟨q, c, rfl, hrd, _, hi, hm⟩
  rw [hr] at hrd
  obtain ⟨b, o, rfl, hc⟩ := hrd.cell 0 k rfl
  exact ⟨b, o, c, rfl, hc, hi, hm⟩
/-- What stands behind 'high' where all is well. -/
def HighP (B g : Nat) (v : Value) (R : Rr) (h : List UInt8) (w : World) (e : Ending) (w' : World) : Prop :=
  ∃ q c, e = .returned (.slice q h.length c) ∧ Rd V8 w' q c h ∧ (∀ x, q = some x → v.ownBlock = some x.block) ∧ IsR w' B g v { R with at_ := R.at_ + (1 + h.length) } ∧ Mod [g] w w'
set_option maxRecDepth 100000 in
theorem high_yes (B g : Nat) (v : Value) (R : Rr) (w : World) (h : IsR w B g v R) (m : Int) (most : Nat) (hm : m = (most : Int)) (hh : List UInt8) (hp : highP most (R.b.drop R.at_) = .ok hh) :
    Calls Try.prog 82 #[.pointer (some ⟨g, 0, none⟩), .int .i64 m] w (HighP B g v R hh w) := by
  cases hd : R.b.drop R.at_ with
  | nil => rw [hd] at hp; cases hp
  | cons k r =>
    have hlen := h.len
    obtain ⟨hl, hdr, hrl⟩ := drop_cons hd
    rw [hd] at hp
    simp only [highP] at hp
    split at hp
    · cases hp
    rename_i hmk
    split at hp
    · cases hp
    rename_i hkl
    split at hp
    · cases hp
    rename_i hz
    injection hp with hp
    have hkt := k.toNat_lt
    have hhl : hh.length = k.toNat := by rw [← hp]; simp; omega
    have H := Lib.hid h
    have H1 := Lib.hid (next_one B g v R w h k r hd)
    have d1 : decide (k.toNat ≤ most) = true := by simp; omega
    subst hm
    have HP := Lib.hid hp
    have HDR := Lib.hid hdr
    have HHL := Lib.hid hhl
    clear h hd hp hdr hhl
    unfold HighP
    rw [HHL.out]
    go_enter Try.func82, Try.ntmps82
    go_wp2_with fail
    refine H1.out.mono ?_
    rintro e w1 ⟨b, o, c, rfl, hc, hi1, m1⟩
    have HI1 := Lib.hid hi1
    clear hi1
    go_wp2_with fail
    refine (need_yes _ _).mono ?_
    rintro e w2 ⟨rfl, rfl⟩
    clear hc d1
    go_wp2_with fail
    refine (next_any B g v _ w1 HI1.out k.toNat (by show k.toNat ≤ R.b.length - (R.at_ + 1); omega)).mono ?_
    rintro e w2 ⟨q, c2, rfl, hrd, hq, hi2, m2⟩
    have hrd' : Rd V8 w2 q c2 hh := by
      have e2 : (R.b.drop (R.at_ + 1)).take k.toNat = hh := by rw [HDR.out]; exact HP.out
      rw [← e2]; exact hrd
    have HI2 := Lib.hid hi2
    have HRD := Lib.hid hrd'
    have HQ := Lib.hid hq
    clear hi2 hrd hrd' hq
    by_cases hk0 : k = 0
    · subst hk0
      go_wp2_with fail
      refine (need_yes _ _).mono ?_
      rintro e w3 ⟨rfl, rfl⟩
      go_wp2_with fail
      go_ret
      exact ⟨_, _, rfl, HRD.out, HQ.out, by have := HI2.out; rw [Nat.add_assoc] at this; exact this, m1.trans m2 (fun x hx => .inl hx)⟩
    · have e0 : ((k.toNat : Int) == 0) = false := by
        rw [beq_eq_false_iff_ne]
        intro e
        exact hk0 (UInt8.toNat_inj.1 (by simpa using e))
      have hkp : 0 < k.toNat := by
        rcases Nat.eq_zero_or_pos k.toNat with e | e
        · exact absurd (UInt8.toNat_inj.1 (by simpa using e)) hk0
        · exact e
      obtain ⟨x, hx0⟩ : ∃ x, hh[0]? = some x := ⟨hh[0]'(by rw [HHL.out]; exact hkp), List.getElem?_eq_getElem _⟩
      have hxz : (x != 0) = true := by
        simp only [bne_iff_ne, ne_eq]
        intro e
        subst e
        refine hz ⟨hk0, ?_⟩
        rw [← HP.out, List.getElem?_take, if_pos hkp] at hx0
        rw [List.head?_eq_getElem?]; exact hx0
      obtain ⟨b2, o2, rfl, hc2⟩ := HRD.out.cell 0 x hx0
      rw [Nat.add_zero] at hc2
      clear hx0 hz
      go_wp2_with fail
      refine (need_yes _ _).mono ?_
      rintro e w3 ⟨rfl, rfl⟩
      clear hc2
      go_wp2_with fail
      go_ret
      exact ⟨_, _, rfl, HRD.out, HQ.out, by have := HI2.out; rw [Nat.add_assoc] at this; exact this, m1.trans m2 (fun x hx => .inl hx)⟩
/-- Behind a look that gave up one on. -/
theorem GaveUp.on {B g : Nat} {v : Value} {R : Rr} {er : Int} {w w' : World} {n : Nat} (h : IsR w' B g v { R with at_ := n }) (hm : Mod [g] w w') : GaveUp B g v R er w (.panicked [{ v := torn er, recovered := false }]) w' :=
  ⟨rfl, ⟨n, h⟩, hm⟩
set_option maxRecDepth 100000 in
theorem high_no (B g : Nat) (v : Value) (R : Rr) (w : World) (h : IsR w B g v R) (m : Int) (most : Nat) (hm : m = (most : Int)) (er : Int) (hp : highP most (R.b.drop R.at_) = .error er) :
    Calls Try.prog 82 #[.pointer (some ⟨g, 0, none⟩), .int .i64 m] w (GaveUp B g v R er w) := by
  subst hm
  cases hd : R.b.drop R.at_ with
  | nil =>
    rw [hd] at hp
    simp only [highP, Except.error.injEq] at hp
    subst hp
    have hl : R.b.length ≤ R.at_ := List.drop_eq_nil_iff.1 hd
    have H := Lib.hid h
    have H1 := Lib.hid (next_short B g v R w h 1 (by omega) (by omega))
    clear h hd
    go_enter Try.func82, Try.ntmps82
    go_wp2_with fail
    refine H1.out.mono ?_
    rintro e w1 ⟨rfl, m1⟩
    exact ⟨rfl, GaveUp.same H.out m1⟩
  | cons k r =>
    have hlen := h.len
    obtain ⟨hl, hdr, hrl⟩ := drop_cons hd
    rw [hd] at hp
    have H1 := Lib.hid (next_one B g v R w h k r hd)
    have HDR := Lib.hid hdr
    have hkt := k.toNat_lt
    simp only [highP] at hp
    clear h hd hdr
    split at hp
    · rename_i hmk
      injection hp with hp
      subst hp
      have d1 : decide (k.toNat ≤ most) = false := by simp; omega
      go_enter Try.func82, Try.ntmps82
      go_wp2_with fail
      refine H1.out.mono ?_
      rintro e w1 ⟨b, o, c, rfl, hc, hi1, m1⟩
      have HI1 := Lib.hid hi1
      clear hi1
      go_wp2_with fail
      refine (need_no _ _).mono ?_
      rintro e w2 ⟨rfl, rfl⟩
      exact ⟨rfl, GaveUp.on HI1.out m1⟩
    rename_i hmk
    have d1 : decide (k.toNat ≤ most) = true := by simp; omega
    split at hp
    · rename_i hkl
      injection hp with hp
      subst hp
      go_enter Try.func82, Try.ntmps82
      go_wp2_with fail
      refine H1.out.mono ?_
      rintro e w1 ⟨b, o, c, rfl, hc, hi1, m1⟩
      have HI1 := Lib.hid hi1
      clear hi1
      go_wp2_with fail
      refine (need_yes _ _).mono ?_
      rintro e w2 ⟨rfl, rfl⟩
      clear hc d1
      go_wp2_with fail
      refine (next_short B g v _ w1 HI1.out k.toNat (by show R.b.length - (R.at_ + 1) < k.toNat; omega) (by omega)).mono ?_
      rintro e w2 ⟨rfl, m2⟩
      exact ⟨rfl, GaveUp.on (HI1.out.mod0 m2) (m1.trans0 m2)⟩
    rename_i hkl
    split at hp
    · rename_i hz
      injection hp with hp
      subst hp
      obtain ⟨hk0, hhd⟩ := hz
      have e0 : ((k.toNat : Int) == 0) = false := by
        rw [beq_eq_false_iff_ne]
        intro e
        exact hk0 (UInt8.toNat_inj.1 (by simpa using e))
      have hkp : 0 < k.toNat := by
        rcases Nat.eq_zero_or_pos k.toNat with e | e
        · exact absurd (UInt8.toNat_inj.1 (by simpa using e)) hk0
        · exact e
      have HHD := Lib.hid hhd
      clear hhd
      go_enter Try.func82, Try.ntmps82
      go_wp2_with fail
      refine H1.out.mono ?_
      rintro e w1 ⟨b, o, c, rfl, hc, hi1, m1⟩
      have HI1 := Lib.hid hi1
      clear hi1
      go_wp2_with fail
      refine (need_yes _ _).mono ?_
      rintro e w2 ⟨rfl, rfl⟩
      clear hc d1
      go_wp2_with fail
      refine (next_any B g v _ w1 HI1.out k.toNat (by show k.toNat ≤ R.b.length - (R.at_ + 1); omega)).mono ?_
      rintro e w2 ⟨q, c2, rfl, hrd, hq, hi2, m2⟩
      have hx0 : ((R.b.drop (R.at_ + 1)).take k.toNat)[0]? = some 0 := by
        rw [HDR.out, List.getElem?_take, if_pos hkp, ← List.head?_eq_getElem?]; exact HHD.out
      obtain ⟨b2, o2, rfl, hc2⟩ := hrd.cell 0 _ hx0
      rw [Nat.add_zero] at hc2
      have HI2 := Lib.hid hi2
      clear hi2 hrd hq hx0
      go_wp2_with fail
      refine (need_no _ _).mono ?_
      rintro e w3 ⟨rfl, rfl⟩
      exact ⟨rfl, GaveUp.on HI2.out (m1.trans m2 (fun x hx => .inl hx))⟩
    · cases hp
end Go.Proofs.Ytnmcbdppbpfegaa
