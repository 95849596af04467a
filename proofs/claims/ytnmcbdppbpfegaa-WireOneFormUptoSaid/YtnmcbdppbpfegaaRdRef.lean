/- The document's reader: Read, left, fixed, Byte. Condition: at most 2^22 bytes where there is no fault. -/
import Derived.Test.YtnmcbdppbpfegaaRrPure
import Derived.Test.YtnmcbdppbpfegaaWrMem
namespace Go.Proofs.Ytnmcbdppbpfegaa
open Go.RowKit
attribute [local go_sem high] one8 st8 cm8 b_and8 b_and8r b_and8l b_or8 b_or8r b_or8l b_xor8 b_xor8r b_xor8l b_andNot8 b_andNot8r b_andNot8l b_add8 b_add8r b_add8l b_sub8 b_sub8r b_sub8l b_mul8 b_mul8r b_mul8l b_eql8 b_eql8r b_eql8l b_neq8 b_neq8r b_neq8l b_lss8 b_lss8r b_lss8l b_leq8 b_leq8r b_leq8l b_gtr8 b_gtr8r b_gtr8l b_geq8 b_geq8r b_geq8l b_quo8r b_rem8r b_shl8r b_shr8r b_shl8l b_shr8l u_xor8 g_eql8 g_neq8 g_eql8' g_neq8' one32 st32 cm32 b_and32 b_and32r b_and32l b_or32 b_or32r b_or32l b_xor32 b_xor32r b_xor32l b_andNot32 b_andNot32r b_andNot32l b_add32 b_add32r b_add32l b_sub32 b_sub32r b_sub32l b_mul32 b_mul32r b_mul32l b_eql32 b_eql32r b_eql32l b_neq32 b_neq32r b_neq32l b_lss32 b_lss32r b_lss32l b_leq32 b_leq32r b_leq32l b_gtr32 b_gtr32r b_gtr32l b_geq32 b_geq32r b_geq32l b_quo32r b_rem32r b_shl32r b_shr32r b_shl32l b_shr32l u_xor32 g_eql32 g_neq32 g_eql32' g_neq32' one64 st64 cm64 b_and64 b_and64r b_and64l b_or64 b_or64r b_or64l b_xor64 b_xor64r b_xor64l b_andNot64 b_andNot64r b_andNot64l b_add64 b_add64r b_add64l b_sub64 b_sub64r b_sub64l b_mul64 b_mul64r b_mul64l b_eql64 b_eql64r b_eql64l b_neq64 b_neq64r b_neq64l b_lss64 b_lss64r b_lss64l b_leq64 b_leq64r b_leq64l b_gtr64 b_gtr64r b_gtr64l b_geq64 b_geq64r b_geq64l b_quo64r b_rem64r b_shl64r b_shr64r b_shl64l b_shr64l u_xor64 g_eql64 g_neq64 g_eql64' g_neq64' c_u8_u8 c_u8_u32 c_u8_u64 c_i_u8 c_u32_u8 c_u32_u32 c_u32_u64 c_i_u32 c_u64_u8 c_u64_u32 c_u64_u64 c_i_u64 c_u8_i c_u32_i
attribute [local go_sem ↓] ce8 ce32 ce64
attribute [local go_sem ↓] sliced_slp
/-- The document's reader R lies in block g; where there is no fault its bytes lie behind p. -/
structure IsD (w : World) (g : Nat) (p : Option Addr) (n cap : Nat) (R : Rr) : Prop where
  blk : w.heap[g]? = some (.cells #[.slice p n cap, .int .i64 R.at_, .int .i64 R.e] 37 (0, 0))
  rd : R.e = 0 → n = R.b.length ∧ Rd V8 w p cap R.b ∧ Off p [g] ∧ R.at_ ≤ R.b.length ∧ R.b.length ≤ 4194304
namespace IsD
variable {a w : World} {g n cap : Nat} {p : Option Addr} {R : Rr}
theorem c0 (h : IsD w g p n cap R) : w.cell? ⟨g, 0, none⟩ = some (.slice p n cap) := by rw [cell_blk h.blk]; rfl
theorem c1 (h : IsD w g p n cap R) : w.cell? ⟨g, 1, none⟩ = some (.int .i64 R.at_) := by rw [cell_blk h.blk]; rfl
theorem c2 (h : IsD w g p n cap R) : w.cell? ⟨g, 2, none⟩ = some (.int .i64 R.e) := by rw [cell_blk h.blk]; rfl
theorem frz (h : IsD w g p n cap R) (j : Nat) : w.frozen? ⟨g, j, none⟩ = false := frozen_blk h.blk j
theorem mod {S : List Nat} (h : IsD a g p n cap R) (hm : Mod S a w) (hg : g ∉ S) (hs : Off p S) : IsD w g p n cap R :=
  ⟨hm.get h.blk hg, fun he => let ⟨h1, h2, h3⟩ := h.rd he; ⟨h1, h2.mod hm (fun _ => hs), h3⟩⟩
theorem mod0 (h : IsD a g p n cap R) (hm : Mod [] a w) : IsD w g p n cap R := h.mod hm (by simp) (Off.nil p)
/-- Its place is written. -/
theorem setAt (h : IsD w g p n cap R) (i : Nat) (hi : R.e = 0 → i ≤ R.b.length) : IsD (w.setCell ⟨g, 1, none⟩ (.int .i64 i)) g p n cap { R with at_ := i } :=
  ⟨by rw [hp_sc h.blk]; rfl, fun he => let ⟨h1, h2, h3, h4, h5⟩ := h.rd he; ⟨h1, h2.mod ((Mod.refl [g] w).setCell (p := ⟨g, 1, none⟩) (.inl (by simp)) _) (fun _ => h3), h3, hi he, h5⟩⟩
/-- Its fault is written. -/
theorem setE (h : IsD w g p n cap R) (e : Int) (he : e ≠ 0) : IsD (w.setCell ⟨g, 2, none⟩ (.int .i64 e)) g p n cap { R with e := e } :=
  ⟨by rw [hp_sc h.blk]; rfl, fun h0 => absurd h0 he⟩
end IsD
/-- Behind a call that turns the document's reader. -/
def DPost (g : Nat) (p : Option Addr) (n cap : Nat) (R : Rr) (r : Value) (w : World) (e : Ending) (w' : World) : Prop := e = .returned r ∧ IsD w' g p n cap R ∧ Mod [g] w w'
theorem left_any (g n cap : Nat) (p : Option Addr) (R : Rr) (w : World) (h : IsD w g p n cap R) (he : R.e = 0) :
    Calls Try.prog 44 #[.pointer (some ⟨g, 0, none⟩)] w fun e w' => e = .returned (.int .i64 ((R.b.length : Int) - (R.at_ : Int))) ∧ ∃ m, w' = w.drewN m := by
  obtain ⟨hn, _, _, hl1, hl2⟩ := h.rd he
  subst hn
  have c0 := h.c0
  have c1 := h.c1
  have hs1 : IntKind.i64.wrap ((R.b.length : Int) - (R.at_ : Int)) = (R.b.length : Int) - (R.at_ : Int) := wrI _ (by omega) (by omega)
  clear h he
  go_enter Try.func44, Try.ntmps44
  go_wp2_with fail
  go_quiet (fail)
  go_wp2_with fail
  go_ret
  exact ⟨rfl, _, rfl⟩
/-- fixed where there is a fault: nothing. -/
theorem fixed_fault (g n cap : Nat) (p : Option Addr) (R : Rr) (w : World) (h : IsD w g p n cap R) (he : R.e ≠ 0) (k : Int) :
    Calls Try.prog 85 #[.pointer (some ⟨g, 0, none⟩), .int .i64 k] w fun e w' => e = .returned (.slice none 0 0) ∧ w' = w := by
  have c2 := h.c2
  have d0 : (R.e != 0) = true := by simpa using he
  clear h he
  go_enter Try.func85, Try.ntmps85
  go_wp2
  go_ret
  exact ⟨rfl, rfl⟩
theorem fixed_short (g n cap : Nat) (p : Option Addr) (R : Rr) (w : World) (h : IsD w g p n cap R) (he : R.e = 0) (k : Nat) (hk : R.b.length - R.at_ < k) :
    Calls Try.prog 85 #[.pointer (some ⟨g, 0, none⟩), .int .i64 k] w (DPost g p n cap { R with e := 31 } (.slice none 0 0) w) := by
  obtain ⟨_, _, _, hl1, hl2⟩ := h.rd he
  have HL := Lib.hid (left_any g n cap p R w h he)
  have H := Lib.hid h
  have c2 := h.c2
  rw [he] at c2
  have d1 : decide ((R.b.length : Int) - (R.at_ : Int) < (k : Int)) = true := by simp; omega
  clear h he
  go_enter Try.func85, Try.ntmps85
  go_wp2_with fail
  refine HL.out.mono ?_
  rintro e w1 ⟨rfl, m, hw1⟩
  have hm1 : Mod [] w w1 := by rw [hw1]; exact (Mod.refl [] w).drewN m
  have H1 := Lib.hid (H.out.mod0 hm1)
  have f2 := H1.out.frz 2
  have k2 := H1.out.c2
  clear hw1 c2 HL
  go_wp2_with fail
  go_ret
  exact ⟨rfl, H1.out.setE 31 (by decide), (hm1.mono (by simp)).setCell (p := ⟨g, 2, none⟩) (.inl (by simp)) _⟩
/-- fixed where there are so many. -/
def FixP (g n cap : Nat) (p : Option Addr) (R : Rr) (k : Nat) (w : World) (e : Ending) (w' : World) : Prop :=
  ∃ q c, e = .returned (.slice q k c) ∧ Rd V8 w' q c ((R.b.drop R.at_).take k) ∧ Off q [g] ∧ (∀ x, q = some x → ∃ y, p = some y ∧ x.block = y.block) ∧ IsD w' g p n cap { R with at_ := R.at_ + k } ∧ Mod [g] w w'
theorem slp_blk {p : Option Addr} {k cap s : Nat} {x : Addr} (h : slp p k cap s = some x) : ∃ y, p = some y ∧ x.block = y.block := by
  unfold slp at h
  split at h
  · exact ⟨x, h, rfl⟩
  · cases p with
    | none => cases h
    | some a =>
      obtain ⟨b, o, sp⟩ := a
      simp only [Option.map_some, Option.some.injEq] at h
      subst h
      refine ⟨_, rfl, ?_⟩
      simp only [Addr.add]
      split <;> rfl
set_option maxRecDepth 100000 in
theorem fixed_yes (g n cap : Nat) (p : Option Addr) (R : Rr) (w : World) (h : IsD w g p n cap R) (he : R.e = 0) (k : Nat) (hk : k ≤ R.b.length - R.at_) :
    Calls Try.prog 85 #[.pointer (some ⟨g, 0, none⟩), .int .i64 k] w (FixP g n cap p R k w) := by
  obtain ⟨hn, hrd, hoff, hl1, hl2⟩ := h.rd he
  have hcap := hrd.le
  have HL := Lib.hid (left_any g n cap p R w h he)
  have H := Lib.hid h
  have HRD := Lib.hid hrd
  have HOFF := Lib.hid hoff
  have c2 := h.c2
  rw [he] at c2
  have d1 : decide ((R.b.length : Int) - (R.at_ : Int) < (k : Int)) = false := by simp; omega
  unfold FixP
  subst hn
  clear h hrd hoff
  have HE := Lib.hid he
  clear he
  go_enter Try.func85, Try.ntmps85
  go_wp2_with fail
  refine HL.out.mono ?_
  rintro e w1 ⟨rfl, m, hw1⟩
  have hm1 : Mod [] w w1 := by rw [hw1]; exact (Mod.refl [] w).drewN m
  have H1 := Lib.hid (H.out.mod0 hm1)
  have HM1 := Lib.hid hm1
  have k0 := H1.out.c0
  have k1 := H1.out.c1
  have f1 := H1.out.frz 1
  have hs2 : IntKind.i64.wrap ((R.at_ : Int) + (k : Int)) = (R.at_ : Int) + (k : Int) := wrI _ (by omega) (by omega)
  have hs3 : ((R.at_ : Int) + (k : Int)).toNat = R.at_ + k := by omega
  have hb1 : (R.at_ : Int) + (k : Int) ≤ (cap : Int) := by omega
  have hb2 : R.at_ + k ≤ cap := by omega
  have hb3 : R.at_ ≤ cap := by omega
  have hb4 : (R.at_ : Int) ≤ (R.at_ : Int) + (k : Int) := by omega
  clear hw1 c2 HL hm1
  go_wp2_with fail
  go_quiet (fail)
  go_wp2_with fail
  go_ret
  have hm : ∀ m, Mod [g] w ((w1.drewN m).setCell ⟨g, 1, none⟩ (.int .i64 ((R.at_ : Int) + (k : Int)))) := fun m => ((HM1.out.mono (S' := [g]) (by simp)).drewN m).setCell (p := ⟨g, 1, none⟩) (.inl (by simp)) _
  refine ⟨_, _, rfl, ?_, HOFF.out.slp _ _ _, fun x hx => slp_blk hx, ?_, hm _⟩
  · exact ((HRD.out.drop R.at_ hl1).take k).mod (hm _) (fun _ => HOFF.out.slp _ _ _)
  · rw [(Int.natCast_add R.at_ k).symm]
    exact (H1.out.mod0 ((Mod.refl [] w1).drewN _)).setAt (R.at_ + k) (fun _ => by omega)
end Go.Proofs.Ytnmcbdppbpfegaa
