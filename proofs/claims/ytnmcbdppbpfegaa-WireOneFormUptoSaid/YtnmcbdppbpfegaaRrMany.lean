/- many, Err, At of a reader. Condition: at most 2^22 bytes. -/
import Derived.Test.YtnmcbdppbpfegaaRrCalls
namespace Go.Proofs.Ytnmcbdppbpfegaa
open Go.RowKit
attribute [local go_sem high] one8 st8 cm8 b_and8 b_and8r b_and8l b_or8 b_or8r b_or8l b_xor8 b_xor8r b_xor8l b_andNot8 b_andNot8r b_andNot8l b_add8 b_add8r b_add8l b_sub8 b_sub8r b_sub8l b_mul8 b_mul8r b_mul8l b_eql8 b_eql8r b_eql8l b_neq8 b_neq8r b_neq8l b_lss8 b_lss8r b_lss8l b_leq8 b_leq8r b_leq8l b_gtr8 b_gtr8r b_gtr8l b_geq8 b_geq8r b_geq8l b_quo8r b_rem8r b_shl8r b_shr8r b_shl8l b_shr8l u_xor8 g_eql8 g_neq8 g_eql8' g_neq8' one32 st32 cm32 b_and32 b_and32r b_and32l b_or32 b_or32r b_or32l b_xor32 b_xor32r b_xor32l b_andNot32 b_andNot32r b_andNot32l b_add32 b_add32r b_add32l b_sub32 b_sub32r b_sub32l b_mul32 b_mul32r b_mul32l b_eql32 b_eql32r b_eql32l b_neq32 b_neq32r b_neq32l b_lss32 b_lss32r b_lss32l b_leq32 b_leq32r b_leq32l b_gtr32 b_gtr32r b_gtr32l b_geq32 b_geq32r b_geq32l b_quo32r b_rem32r b_shl32r b_shr32r b_shl32l b_shr32l u_xor32 g_eql32 g_neq32 g_eql32' g_neq32' one64 st64 cm64 b_and64 b_and64r b_and64l b_or64 b_or64r b_or64l b_xor64 b_xor64r b_xor64l b_andNot64 b_andNot64r b_andNot64l b_add64 b_add64r b_add64l b_sub64 b_sub64r b_sub64l b_mul64 b_mul64r b_mul64l b_eql64 b_eql64r b_eql64l b_neq64 b_neq64r b_neq64l b_lss64 b_lss64r b_lss64l b_leq64 b_leq64r b_leq64l b_gtr64 b_gtr64r b_gtr64l b_geq64 b_geq64r b_geq64l b_quo64r b_rem64r b_shl64r b_shr64r b_shl64l b_shr64l u_xor64 g_eql64 g_neq64 g_eql64' g_neq64' c_u8_u8 c_u8_u32 c_u8_u64 c_i_u8 c_u32_u8 c_u32_u32 c_u32_u64 c_i_u32 c_u64_u8 c_u64_u32 c_u64_u64 c_i_u64 c_u8_i c_u32_i
attribute [local go_sem ↓] ce8 ce32 ce64
attribute [local go_sem ↓] sliced_slp
theorem err_any (B g : Nat) (v : Value) (R : Rr) (w : World) (h : IsR w B g v R) : Calls Try.prog 18 #[.pointer (some ⟨g, 0, none⟩)] w fun e w' => e = .returned (.int .i64 R.e) ∧ w' = w := by
  have c2 := h.c2
  clear h
  go_enter Try.func18, Try.ntmps18
  go_wp2
  go_ret
  exact ⟨rfl, rfl⟩
theorem at_any (B g : Nat) (v : Value) (R : Rr) (w : World) (h : IsR w B g v R) : Calls Try.prog 19 #[.pointer (some ⟨g, 0, none⟩)] w fun e w' => e = .returned (.int .i64 R.at_) ∧ w' = w := by
  have c1 := h.c1
  clear h
  go_enter Try.func19, Try.ntmps19
  go_wp2
  go_ret
  exact ⟨rfl, rfl⟩
set_option maxRecDepth 100000 in
theorem many_yes (B g : Nat) (v : Value) (R : Rr) (w : World) (h : IsR w B g v R) (m : Int) (n c : Nat) (hp : manyP m (R.b.drop R.at_) = .ok (n, c)) :
    Calls Try.prog 43 #[.pointer (some ⟨g, 0, none⟩), .int .i64 m] w (NumR B g v R n c w) := by
  obtain ⟨hn, hm, hl⟩ := manyP_ok hp
  have hk := numP_ok hn
  rw [List.length_drop] at hl hk
  have HN := Lib.hid (rnumber_yes B g v R w h n c hn)
  have hlen := h.len
  have d1 : decide ((n : Int) ≤ m) = true := by simpa using hm
  clear h hp hn
  unfold NumR
  go_enter Try.func43, Try.ntmps43
  go_wp2_with fail
  refine HN.out.mono ?_
  rintro e w1 ⟨rfl, hi, hm1⟩
  have HI := Lib.hid hi
  have HM := Lib.hid hm1
  obtain ⟨p, cap, hv, _, _⟩ := hi.own.rd
  subst hv
  have c0 := hi.c0
  have c1 := hi.c1
  change _ = some (Value.slice p R.b.length cap) at c0
  change _ = some (Value.int .i64 ((R.at_ + c : Nat) : Int)) at c1
  obtain ⟨a, ha⟩ : ∃ a, a = R.at_ + c := ⟨_, rfl⟩
  rw [← ha] at c1
  have hs1 : IntKind.i64.wrap ((R.b.length : Int) - (a : Int)) = (R.b.length : Int) - (a : Int) := wrI _ (by omega) (by omega)
  have d2 : decide ((n : Int) ≤ (R.b.length : Int) - (a : Int)) = true := by simp; omega
  clear hi hm1 HN ha
  go_wp2_with fail
  refine (need_yes _ _).mono ?_
  rintro e w2 ⟨rfl, rfl⟩
  clear d1
  go_wp2_with fail
  go_quiet ((go_at_call 83; exact Calls.quiet_of_same ((need_yes _ _).mono (fun e w h => ⟨h.1, h.2.symm⟩))))
  go_wp2_with fail
  go_ret
  exact ⟨rfl, HI.out.mod0 ((Mod.refl [] w1).drewN _), HM.out.drewN _⟩
set_option maxRecDepth 100000 in
theorem many_no (B g : Nat) (v : Value) (R : Rr) (w : World) (h : IsR w B g v R) (m : Int) (er : Int) (hp : manyP m (R.b.drop R.at_) = .error er) :
    Calls Try.prog 43 #[.pointer (some ⟨g, 0, none⟩), .int .i64 m] w (GaveUp B g v R er w) := by
  have hlen := h.len
  unfold manyP at hp
  split at hp
  · rename_i e2 hn
    injection hp with hp
    subst hp
    have HN := Lib.hid (rnumber_no B g v R w h _ hn)
    clear h hn
    go_enter Try.func43, Try.ntmps43
    go_wp2_with fail
    refine HN.out.mono ?_
    rintro e w1 ⟨rfl, hi, hm⟩
    exact ⟨rfl, rfl, hi, hm⟩
  rename_i n c hn
  have hk := numP_ok hn
  have HN := Lib.hid (rnumber_yes B g v R w h n c hn)
  rw [List.length_drop] at hp hk
  clear h hn
  split at hp
  · rename_i hmn
    injection hp with hp
    subst hp
    have d1 : decide ((n : Int) ≤ m) = false := by simp; omega
    go_enter Try.func43, Try.ntmps43
    go_wp2_with fail
    refine HN.out.mono ?_
    rintro e w1 ⟨rfl, hi, hm1⟩
    go_wp2_with fail
    refine (need_no _ _).mono ?_
    rintro e w2 ⟨rfl, rfl⟩
    exact ⟨rfl, GaveUp.on hi hm1⟩
  rename_i hmn
  split at hp
  · rename_i hln
    injection hp with hp
    subst hp
    have d1 : decide ((n : Int) ≤ m) = true := by simp; omega
    go_enter Try.func43, Try.ntmps43
    go_wp2_with fail
    refine HN.out.mono ?_
    rintro e w1 ⟨rfl, hi, hm1⟩
    have HI := Lib.hid hi
    have HM := Lib.hid hm1
    obtain ⟨p, cap, hv, _, _⟩ := hi.own.rd
    subst hv
    have c0 := hi.c0
    have c1 := hi.c1
    change _ = some (Value.slice p R.b.length cap) at c0
    change _ = some (Value.int .i64 ((R.at_ + c : Nat) : Int)) at c1
    obtain ⟨a, ha⟩ : ∃ a, a = R.at_ + c := ⟨_, rfl⟩
    rw [← ha] at c1
    have hs1 : IntKind.i64.wrap ((R.b.length : Int) - (a : Int)) = (R.b.length : Int) - (a : Int) := wrI _ (by omega) (by omega)
    have d2 : decide ((n : Int) ≤ (R.b.length : Int) - (a : Int)) = false := by simp; omega
    clear hi hm1 HN ha
    go_wp2_with fail
    refine (need_yes _ _).mono ?_
    rintro e w2 ⟨rfl, rfl⟩
    clear d1
    go_wp2_with fail
    go_still_tail 12, (by kernel_rfl)
    change wpList _ _ _ _ _ w1.drew
    generalize hw : w1.drew = w2
    go_wp2_with fail
    refine (need_no _ _).mono ?_
    rintro e w3 ⟨rfl, rfl⟩
    subst hw
    exact ⟨rfl, GaveUp.on (HI.out.mod0 (Mod.refl [] w1).drew) HM.out.drew⟩
  · cases hp
end Go.Proofs.Ytnmcbdppbpfegaa
