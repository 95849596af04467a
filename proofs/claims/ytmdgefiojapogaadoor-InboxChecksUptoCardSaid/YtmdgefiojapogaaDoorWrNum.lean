/- NewWriter, Number, Done. Condition: what was laid is of at most 2^22 bytes. -/
import Derived.Test.YtmdgefiojapogaaDoorWrLay
namespace Go.Proofs.YtmdgefiojapogaaDoor
open Go.RowKit
attribute [local go_sem high] one8 st8 cm8 b_and8 b_and8r b_and8l b_or8 b_or8r b_or8l b_xor8 b_xor8r b_xor8l b_andNot8 b_andNot8r b_andNot8l b_add8 b_add8r b_add8l b_sub8 b_sub8r b_sub8l b_mul8 b_mul8r b_mul8l b_eql8 b_eql8r b_eql8l b_neq8 b_neq8r b_neq8l b_lss8 b_lss8r b_lss8l b_leq8 b_leq8r b_leq8l b_gtr8 b_gtr8r b_gtr8l b_geq8 b_geq8r b_geq8l b_quo8r b_rem8r b_shl8r b_shr8r b_shl8l b_shr8l u_xor8 g_eql8 g_neq8 g_eql8' g_neq8' one32 st32 cm32 b_and32 b_and32r b_and32l b_or32 b_or32r b_or32l b_xor32 b_xor32r b_xor32l b_andNot32 b_andNot32r b_andNot32l b_add32 b_add32r b_add32l b_sub32 b_sub32r b_sub32l b_mul32 b_mul32r b_mul32l b_eql32 b_eql32r b_eql32l b_neq32 b_neq32r b_neq32l b_lss32 b_lss32r b_lss32l b_leq32 b_leq32r b_leq32l b_gtr32 b_gtr32r b_gtr32l b_geq32 b_geq32r b_geq32l b_quo32r b_rem32r b_shl32r b_shr32r b_shl32l b_shr32l u_xor32 g_eql32 g_neq32 g_eql32' g_neq32' one64 st64 cm64 b_and64 b_and64r b_and64l b_or64 b_or64r b_or64l b_xor64 b_xor64r b_xor64l b_andNot64 b_andNot64r b_andNot64l b_add64 b_add64r b_add64l b_sub64 b_sub64r b_sub64l b_mul64 b_mul64r b_mul64l b_eql64 b_eql64r b_eql64l b_neq64 b_neq64r b_neq64l b_lss64 b_lss64r b_lss64l b_leq64 b_leq64r b_leq64l b_gtr64 b_gtr64r b_gtr64l b_geq64 b_geq64r b_geq64l b_quo64r b_rem64r b_shl64r b_shr64r b_shl64l b_shr64l u_xor64 g_eql64 g_neq64 g_eql64' g_neq64' c_u8_u8 c_u8_u32 c_u8_u64 c_i_u8 c_u32_u8 c_u32_u32 c_u32_u64 c_i_u32 c_u64_u8 c_u64_u32 c_u64_u64 c_i_u64 c_u8_i c_u32_i
attribute [local go_sem ↓] ce8 ce32 ce64
attribute [local go_sem ↓] sliced_slp
/-- What stands behind NewWriter. -/
def NewW (B : Nat) (w : World) (e : Ending) (w' : World) : Prop := ∃ g, e = .returned (.pointer (some ⟨g, 0, none⟩)) ∧ w.heap.size ≤ g ∧ IsW w' B g (.slice none 0 0) ⟨[], 0⟩ ∧ Mod [] w w'
theorem newW_any (B : Nat) (w : World) (hB : B ≤ w.heap.size) : Calls Tryd.prog 52 #[] w (NewW B w) := by
  unfold NewW
  go_enter Tryd.func52, Tryd.ntmps52
  go_wp2
  go_ret
  exact ⟨_, rfl, Nat.le_refl _, ⟨hB, hp_new _ _ _ rfl, Own.nil _ _⟩, (Mod.refl _ _).alloc _⟩
set_option maxRecDepth 100000 in
theorem number_any (B g : Nat) (v : Value) (W : Wr) (w : World) (h : IsW w B g v W) (hk : W.b.length ≤ 4194304) (n : Int) (hn : n ≤ 9223372036854775807) :
    Calls Tryd.prog 55 #[.pointer (some ⟨g, 0, none⟩), .int .i64 n] w (WrPost B g v (W.number n) (.tuple #[]) w) := by
  have H := Lib.hid h
  have c1 := h.c1
  have f1 := h.frz 1
  clear h
  by_cases h0 : n < 0
  · have d0 : decide (n < 0) = true := by simpa using h0
    by_cases he : W.e = 0
    · have e0 : (W.e == 0) = true := by simp [he]
      have HW := Lib.hid (show W.number n = { W with e := 32 } by unfold Wr.number; rw [if_pos h0, if_pos he])
      clear he h0
      go_enter Tryd.func55, Tryd.ntmps55
      go_wp2_with fail
      go_end0
      exact ⟨v, rfl, by rw [HW.out]; exact H.out.setE 32, (Mod.refl _ _).setCell (p := ⟨g, 1, none⟩) (.inl (mem_footB.2 (.inl rfl))) _, fun x hx => .inl hx⟩
    · have e0 : (W.e == 0) = false := by simp [he]
      have HW := Lib.hid (show W.number n = W by unfold Wr.number; rw [if_pos h0, if_neg he])
      clear he h0
      go_enter Tryd.func55, Tryd.ntmps55
      go_wp2_with fail
      go_end0
      exact ⟨v, rfl, by rw [HW.out]; exact H.out, Mod.refl _ _, fun x hx => .inl hx⟩
  · obtain ⟨m, rfl⟩ := Int.eq_ofNat_of_zero_le (Int.not_lt.1 h0)
    have d0 : decide ((m : Int) < 0) = false := by simp
    have HW := Lib.hid (show W.number (m : Int) = W.lay (form m) by unfold Wr.number; rw [if_neg h0]; rfl)
    have hf := form_any m w (by omega)
    clear c1 f1 h0
    go_enter Tryd.func55, Tryd.ntmps55
    go_wp2_with fail
    refine hf.mono ?_
    rintro e w1 ⟨r, rfl, ho, m1⟩
    obtain ⟨p, cap, hr, hrd, hb⟩ := ho.rd
    subst hr
    have H1 := Lib.hid ((H.out.mod0 m1).mod0 ((Mod.refl [] w1).alloc (.cells #[.slice p (form m).length cap] 27)))
    have M1 := Lib.hid (m1.alloc (.cells #[.slice p (form m).length cap] 27))
    have hlt : ∀ x ∈ footB g v, x < w.heap.size := H.out.foot_lt
    have hs1 := m1.size
    have hL := lay_any B g v W (w1.alloc (.cells #[.slice p (form m).length cap] 27)) H1.out hk (some ⟨w1.heap.size, 0, none⟩) 1 [⟨p, cap, form m⟩]
      (Rd.of_blk (hp_new _ _ _ rfl) (fun j u hu => by simpa [SlR.v] using hu) (by simp))
      (fun y hy => by simp only [List.mem_singleton] at hy; subst hy; exact hrd.mod0 ((Mod.refl [] w1).alloc _))
      (fun _ x hx hf => by cases hx; have := hlt _ hf; simp only at this; omega)
      (fun y hy _ x hx hf => by simp only [List.mem_singleton] at hy; subst hy; have h1 := hb x hx; have := hlt _ hf; omega)
      (by simp) (by have := form_length m; simp [total]; omega)
    have HLL := Lib.hid hL
    clear hL ho hrd hb m1
    go_wp2_with fail
    refine HLL.out.mono ?_
    rintro e w2 ⟨v2, rfl, hi2, m2, hv2⟩
    go_wp2_with fail
    go_end0
    refine ⟨v2, rfl, by rw [HW.out]; simpa [joined] using hi2, M1.out.mono (by simp) |>.trans m2 (fun x hx => .inl hx), fun x hx => ?_⟩
    rcases hv2 x hx with e | e
    · exact .inl e
    · exact .inr (Nat.le_trans M1.out.size e)
/-- What Done tells where all is well: the bytes, which are the asker's. -/
def DoneP (w : World) (l : List UInt8) (e : Ending) (w' : World) : Prop := ∃ v, e = .returned (.tuple #[v, .int .i64 0]) ∧ Own w' w.heap.size v l ∧ Mod [] w w'
theorem done_yes (B g : Nat) (v : Value) (W : Wr) (w : World) (h : IsW w B g v W) (hk : W.b.length ≤ 4194304) (he : W.e = 0) :
    Calls Tryd.prog 58 #[.pointer (some ⟨g, 0, none⟩)] w (DoneP w W.b) := by
  unfold DoneP
  obtain ⟨p, cap, hv, hrd, _⟩ := h.own.rd
  have hc0 := h.c0
  have hc1 := h.c1
  rw [hv] at hc0
  rw [he] at hc1
  have hC := cloneB_any p cap W.b.length W.b w hrd rfl (by omega)
  clear h hrd hv he
  go_enter Tryd.func58, Tryd.ntmps58
  go_wp2_with fail
  refine hC.mono ?_
  rintro e w1 ⟨r, rfl, ho, m1⟩
  have HO := Lib.hid ho
  clear ho hc0 hc1
  go_wp2_with fail
  go_ret2
  exact ⟨r, rfl, HO.out, m1⟩
theorem done_no (B g : Nat) (v : Value) (W : Wr) (w : World) (h : IsW w B g v W) (he : W.e ≠ 0) :
    Calls Tryd.prog 58 #[.pointer (some ⟨g, 0, none⟩)] w fun e w' => e = .returned (.tuple #[.slice none 0 0, .int .i64 W.e]) ∧ Mod [] w w' := by
  have hc1 := h.c1
  have d0 : (W.e != 0) = true := by simpa using he
  clear h he
  go_enter Tryd.func58, Tryd.ntmps58
  go_wp2_with fail
  go_region
  go_wp2_with fail
  go_ret2
  exact ⟨rfl, (Mod.refl _ _).drew⟩
end Go.Proofs.YtmdgefiojapogaaDoor
