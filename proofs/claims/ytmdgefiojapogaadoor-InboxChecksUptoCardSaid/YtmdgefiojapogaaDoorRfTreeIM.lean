/- The program's digest and the reference's are one: no memory, no Go. No condition. -/
import Derived.Test.YtmdgefiojapogaaDoorRfOfI
namespace Go.Proofs.YtmdgefiojapogaaDoor
def lenBytes (n : UInt64) : List UInt8 := [(n >>> 56).toUInt8, (n >>> 48).toUInt8, (n >>> 40).toUInt8, (n >>> 32).toUInt8, (n >>> 24).toUInt8, (n >>> 16).toUInt8, (n >>> 8).toUInt8, (n >>> 0).toUInt8]
theorem lenByte_list (n : Nat) : (List.range 8).map (fun i => lenByte n (7 - i)) = lenBytes (UInt64.ofNat n) := rfl
theorem fillN_end (a : List UInt8) (n : UInt64) (ha : a.length = 56) : fillN (a ++ zeros 8) n 8 = a ++ lenBytes n := by
  have hz : zeros 8 = [0, 0, 0, 0, 0, 0, 0, 0] := rfl
  rw [hz]
  simp [fillN, List.set_append, ha, lenBytes]
theorem zeros_add (a b : Nat) : zeros (a + b) = zeros a ++ zeros b := by
  unfold zeros; rw [List.replicate_append_replicate]
theorem mark_eq (last : UInt8) (m : Nat) (h : m < 8) : lastByte last m = if m = 0 then 128 else last &&& ~~~((2 : UInt8) * ((1 : UInt8) <<< UInt8.ofNat (7 - m)) - 1) ||| (1 : UInt8) <<< UInt8.ofNat (7 - m) := by
  have h8 : m = 0 ∨ m = 1 ∨ m = 2 ∨ m = 3 ∨ m = 4 ∨ m = 5 ∨ m = 6 ∨ m = 7 := by omega
  rcases h8 with rfl | rfl | rfl | rfl | rfl | rfl | rfl | rfl
  · simp only [if_true, lastByte]
    have e1 : ~~~((255 : UInt8) >>> UInt8.ofNat 0) = 0 := by decide
    rw [e1]; simp
  all_goals
    simp only [lastByte]
    rfl
theorem endSt_hst (l : List UInt8) (last : UInt8) (more : Nat) (N : UInt64) (hN : UInt64.ofNat l.length * 8 + UInt64.ofNat more = N) :
    endSt l last more = hst (l ++ [lastByte last more] ++ zeros ((120 - (l.length + 1) % 64) % 64) ++ lenBytes N) := by
  unfold endSt
  rw [hN]
  by_cases h : 56 ≤ l.length % 64
  · rw [if_pos h, if_pos h]
    have hK : (120 - (l.length + 1) % 64) % 64 = (63 - l.length % 64) + 56 := by omega
    have hz : zeros ((63 - l.length % 64) + 56) = zeros (63 - l.length % 64) ++ zeros 56 := zeros_add _ _
    rw [hK, hz]
    have h1 := step_full l (lastByte last more :: zeros (63 - l.length % 64)) (by simp [zeros_length]; omega)
    have h2 := step_full (l ++ lastByte last more :: zeros (63 - l.length % 64)) (zeros 56 ++ lenBytes N) (by simp [zeros_length, lenBytes]; omega)
    have e : l ++ [lastByte last more] ++ (zeros (63 - l.length % 64) ++ zeros 56) ++ lenBytes N = (l ++ lastByte last more :: zeros (63 - l.length % 64)) ++ (zeros 56 ++ lenBytes N) := by simp
    rw [e, h2.1, h1.1, h1.2, List.nil_append, ← fillN_end _ _ (zeros_length 56), ← zeros_add]
    rfl
  · rw [if_neg h, if_neg h]
    have hK : (120 - (l.length + 1) % 64) % 64 = 55 - l.length % 64 := by omega
    rw [hK]
    have h1 := step_full l (lastByte last more :: zeros (55 - l.length % 64) ++ lenBytes N) (by simp [zeros_length, lenBytes]; omega)
    have e : l ++ [lastByte last more] ++ zeros (55 - l.length % 64) ++ lenBytes N = l ++ (lastByte last more :: zeros (55 - l.length % 64) ++ lenBytes N) := by simp
    rw [e, h1.1, ← List.append_assoc, ← fillN_end _ _ (by simp [tl_length, zeros_length]; omega)]
    have e2 : tl l ++ lastByte last more :: zeros (55 - l.length % 64) ++ zeros 8 = pad1 l last more := by
      unfold pad1
      rw [List.append_assoc, List.cons_append, ← zeros_add, show 55 - l.length % 64 + 8 = 63 - l.length % 64 by omega]
      rfl
    rw [e2]
theorem fin_ref (d : List UInt8) (n : Nat) (hn : n ≤ 8 * d.length) : fin (d.take (n / 8)) (if n % 8 = 0 then 0 else d.getD (n / 8) 0) (n % 8) = refOf d n := by
  have hl : (d.take (n / 8)).length = n / 8 := by simp; omega
  have hm : lastByte (if n % 8 = 0 then 0 else d.getD (n / 8) 0) (n % 8) = markOf d n := by
    rw [mark_eq _ _ (by omega)]
    unfold markOf
    by_cases h : n % 8 = 0
    · rw [if_pos h, if_pos h]
    · rw [if_neg h, if_neg h, if_neg h]
  unfold fin refOf
  have hN : UInt64.ofNat (d.take (n / 8)).length * 8 + UInt64.ofNat (n % 8) = UInt64.ofNat n := by
    rw [hl]
    have e := congrArg UInt64.ofNat (Nat.div_add_mod n 8)
    rw [UInt64.ofNat_add, UInt64.ofNat_mul, UInt64.mul_comm] at e
    exact e
  rw [endSt_hst _ _ _ _ hN, hm, hl, ← lenByte_list]
  unfold laidOf
  rw [text_length d n hn]
  rfl
theorem sum_ref (d : List UInt8) : fin d 0 0 = refOf d (8 * d.length) := by
  have h := fin_ref d (8 * d.length) (Nat.le_refl _)
  have e1 : 8 * d.length / 8 = d.length := by omega
  have e2 : 8 * d.length % 8 = 0 := by omega
  rw [e1, e2, if_pos rfl, List.take_length] at h
  exact h
end Go.Proofs.YtmdgefiojapogaaDoor
namespace Go.Proofs.YtmdgefiojapogaaDoor
open Go.RowKit
attribute [local go_sem high] one8 st8 cm8 b_and8 b_and8r b_and8l b_or8 b_or8r b_or8l b_xor8 b_xor8r b_xor8l b_andNot8 b_andNot8r b_andNot8l b_add8 b_add8r b_add8l b_sub8 b_sub8r b_sub8l b_mul8 b_mul8r b_mul8l b_eql8 b_eql8r b_eql8l b_neq8 b_neq8r b_neq8l b_lss8 b_lss8r b_lss8l b_leq8 b_leq8r b_leq8l b_gtr8 b_gtr8r b_gtr8l b_geq8 b_geq8r b_geq8l b_quo8r b_rem8r b_shl8r b_shr8r b_shl8l b_shr8l u_xor8 g_eql8 g_neq8 g_eql8' g_neq8' one32 st32 cm32 b_and32 b_and32r b_and32l b_or32 b_or32r b_or32l b_xor32 b_xor32r b_xor32l b_andNot32 b_andNot32r b_andNot32l b_add32 b_add32r b_add32l b_sub32 b_sub32r b_sub32l b_mul32 b_mul32r b_mul32l b_eql32 b_eql32r b_eql32l b_neq32 b_neq32r b_neq32l b_lss32 b_lss32r b_lss32l b_leq32 b_leq32r b_leq32l b_gtr32 b_gtr32r b_gtr32l b_geq32 b_geq32r b_geq32l b_quo32r b_rem32r b_shl32r b_shr32r b_shl32l b_shr32l u_xor32 g_eql32 g_neq32 g_eql32' g_neq32' one64 st64 cm64 b_and64 b_and64r b_and64l b_or64 b_or64r b_or64l b_xor64 b_xor64r b_xor64l b_andNot64 b_andNot64r b_andNot64l b_add64 b_add64r b_add64l b_sub64 b_sub64r b_sub64l b_mul64 b_mul64r b_mul64l b_eql64 b_eql64r b_eql64l b_neq64 b_neq64r b_neq64l b_lss64 b_lss64r b_lss64l b_leq64 b_leq64r b_leq64l b_gtr64 b_gtr64r b_gtr64l b_geq64 b_geq64r b_geq64l b_quo64r b_rem64r b_shl64r b_shr64r b_shl64l b_shr64l u_xor64 g_eql64 g_neq64 g_eql64' g_neq64' c_u8_u8 c_u8_u32 c_u8_u64 c_i_u8 c_u32_u8 c_u32_u32 c_u32_u64 c_i_u32 c_u64_u8 c_u64_u32 c_u64_u64 c_i_u64 c_u8_i c_u32_i
attribute [local go_sem ↓] ce8 ce32 ce64
attribute [local go_sem ↓] loadO61 storeO61 loadO26 storeO26
attribute [local irreducible] compress hst laidOf fin refOf
theorem refOf_length (d : List UInt8) (n : Nat) : (refOf d n).length = 32 := by unfold refOf; exact out_length _
set_option maxRecDepth 100000 in
theorem ref_sum (p : Option Addr) (cap : Nat) (d : List UInt8) (w : World) (hr : Rd V8 w p cap d) (hd : d.length ≤ 70368744177664) (ht : TabR w) (hb : TabB w) :
    Calls Tryd.prog 37 #[.slice p d.length cap] w fun e w' => e = .returned (dv (fin d 0 0)) ∧ Mod [] w w' := by
  have HO := Lib.hid (fun (w1 : World) (hm : Mod [] w w1) (z : Int) (hz : z = ((8 * d.length : Nat) : Int)) => by
    have h := of_any p cap d (8 * d.length) w1 (hr.mod0 hm) (Nat.le_refl _) hd (TabR.mod hm ht (by simp)) (TabB.mod hm hb (by simp))
    rw [← hz, ← sum_ref] at h
    exact h)
  clear hr ht hb
  go_enter Tryd.func37, Tryd.ntmps37
  go_wp2_with (go_at_call 62; refine (HO.out _ ((Mod.refl [] w).alloc _) _ (by omega)).mono ?_; rintro e w5 ⟨rfl, hm5⟩; have HRES := Lib.hid (hm5.get0 (hp_new _ _ _ rfl)); have hS := storeDv (fin d 0 0) (fin_length _ _ _) HRES.out rfl)
  exact bodyPost_ret (results_dv rfl _ _ _ _ (fin_length _ _ _) _ rfl (hp_setRow HRES.out)) rfl ⟨rfl, (((Mod.refl [] w).alloc _).trans0 hm5).setRow (.inr (Nat.le_refl _)) _⟩
end Go.Proofs.YtmdgefiojapogaaDoor
