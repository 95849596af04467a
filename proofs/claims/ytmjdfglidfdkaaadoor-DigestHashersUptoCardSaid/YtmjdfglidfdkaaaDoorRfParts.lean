/- The reference's Joined and Parts. Conditions: as RfOf. -/
import Derived.Test.YtmjdfglidfdkaaaDoorRfFns
import Derived.Test.YtmjdfglidfdkaaaDoorOwnB
namespace Go.Proofs.YtmjdfglidfdkaaaDoor
open Go.RowKit
attribute [local go_sem high] one8 st8 cm8 b_and8 b_and8r b_and8l b_or8 b_or8r b_or8l b_xor8 b_xor8r b_xor8l b_andNot8 b_andNot8r b_andNot8l b_add8 b_add8r b_add8l b_sub8 b_sub8r b_sub8l b_mul8 b_mul8r b_mul8l b_eql8 b_eql8r b_eql8l b_neq8 b_neq8r b_neq8l b_lss8 b_lss8r b_lss8l b_leq8 b_leq8r b_leq8l b_gtr8 b_gtr8r b_gtr8l b_geq8 b_geq8r b_geq8l b_quo8r b_rem8r b_shl8r b_shr8r b_shl8l b_shr8l u_xor8 g_eql8 g_neq8 g_eql8' g_neq8' one32 st32 cm32 b_and32 b_and32r b_and32l b_or32 b_or32r b_or32l b_xor32 b_xor32r b_xor32l b_andNot32 b_andNot32r b_andNot32l b_add32 b_add32r b_add32l b_sub32 b_sub32r b_sub32l b_mul32 b_mul32r b_mul32l b_eql32 b_eql32r b_eql32l b_neq32 b_neq32r b_neq32l b_lss32 b_lss32r b_lss32l b_leq32 b_leq32r b_leq32l b_gtr32 b_gtr32r b_gtr32l b_geq32 b_geq32r b_geq32l b_quo32r b_rem32r b_shl32r b_shr32r b_shl32l b_shr32l u_xor32 g_eql32 g_neq32 g_eql32' g_neq32' one64 st64 cm64 b_and64 b_and64r b_and64l b_or64 b_or64r b_or64l b_xor64 b_xor64r b_xor64l b_andNot64 b_andNot64r b_andNot64l b_add64 b_add64r b_add64l b_sub64 b_sub64r b_sub64l b_mul64 b_mul64r b_mul64l b_eql64 b_eql64r b_eql64l b_neq64 b_neq64r b_neq64l b_lss64 b_lss64r b_lss64l b_leq64 b_leq64r b_leq64l b_gtr64 b_gtr64r b_gtr64l b_geq64 b_geq64r b_geq64l b_quo64r b_rem64r b_shl64r b_shr64r b_shl64l b_shr64l u_xor64 g_eql64 g_neq64 g_eql64' g_neq64' c_u8_u8 c_u8_u32 c_u8_u64 c_i_u8 c_u32_u8 c_u32_u32 c_u32_u64 c_i_u32 c_u64_u8 c_u64_u32 c_u64_u64 c_i_u64 c_u8_i c_u32_i
attribute [local go_sem ↓] ce8 ce32 ce64
attribute [local go_sem ↓] loadO61 storeO61 loadO26 storeO26
attribute [local irreducible] compress hst laidOf fin refOf
theorem joined_any (pp : Option Addr) (cp : Nat) (xs : List SlR) (w : World) (hr : Rd SlR.v w pp cp xs) (hx : ∀ x ∈ xs, Rd V8 w x.p x.cap x.d) (hlen : total xs ≤ 70368744177664) (hl : xs.length < 4611686018427387904) :
    Calls Tryd.prog 21 #[.slice pp xs.length cp] w (MadePost w (joined xs)) := by
  have HR := Lib.hid hr
  have HX := Lib.hid hx
  clear hr hx
  go_enter Tryd.func21, Tryd.ntmps21
  go_wp2_with fail
  go_loopw [3, 4] (fun v i wr => ∃ k : Nat, k ≤ xs.length ∧ i = .int .i64 k ∧ Own wr w.heap.size v (joined (xs.take k)) ∧ Mod [] w wr) (fun _ i _ => xs.length - (intOf i).toNat)
  case atStart => exact ⟨0, by omega, rfl, Own.nil _ _, Mod.refl _ _⟩
  case round =>
    obtain ⟨k, hk, rfl, hown, hm⟩ := hrel
    have HO := Lib.hid hown
    clear hown
    by_cases hlt : k < xs.length
    · obtain ⟨x, hxk⟩ : ∃ x, xs[k]? = some x := ⟨xs[k], List.getElem?_eq_getElem hlt⟩
      have hxd := HX.out x (List.mem_of_getElem? hxk)
      obtain ⟨b, o, rfl, hc⟩ := HR.out.cell k x hxk
      have hb : b < w.heap.size := block_lt_of_cell hc
      have hcr : wr.cell? ⟨b, o + k, none⟩ = some x.v := by
        rw [World.cell?_of_block (w := w) (hm.block b hb (by simp))]; exact hc
      have hjl := joined_take_length xs (k + 1)
      rw [joined_take_succ xs k x hxk, List.length_append] at hjl
      have HXK := Lib.hid hxk
      have HXD := Lib.hid hxd
      clear hxk hxd hc
      go_wp2_with (at_builtin; refine wpList_pushAll rfl _ _ rfl w.heap.size _ _ HO.out rfl x.p x.d.length x.cap x.d rfl rfl (HXD.out.mod0 hm) (by omega) hm.size ?_; intro v' w5 ho5 hg5; have HO5 := Lib.hid ho5; clear ho5)
      go_roundw
      case rel =>
        refine ⟨k + 1, by omega, by go_num, ?_, hm.of_grown hg5 (fun g hg => .inr (HO.out.row g hg))⟩
        rw [joined_take_succ xs k x HXK.out]; exact HO5.out
      case measure => simp [intOf]; omega
    · have hkk : k = xs.length := by omega
      have hd1 : decide ((k : Int) < (xs.length : Int)) = false := by simp; omega
      have HK := Lib.hid hkk
      clear hkk
      go_wp2
      go_ret
      refine ⟨_, rfl, ?_, hm⟩
      have h := HO.out
      rw [HK.out, List.take_length] at h
      exact h
theorem ref_parts (pp : Option Addr) (cp : Nat) (xs : List SlR) (w : World) (hr : Rd SlR.v w pp cp xs) (hx : ∀ x ∈ xs, Rd V8 w x.p x.cap x.d) (hlen : total xs ≤ 70368744177664) (hl : xs.length < 4611686018427387904) (ht : TabR w) (hb : TabB w) :
    Calls Tryd.prog 20 #[.slice pp xs.length cp] w fun e w' => e = .returned (dv (fin (joined xs) 0 0)) ∧ Mod [] w w' := by
  have HR := Lib.hid hr
  have HX := Lib.hid hx
  have HT := Lib.hid ht
  have HB := Lib.hid hb
  clear hr hx ht hb
  have hjl : (joined xs).length ≤ 70368744177664 := by rw [joined_length]; exact hlen
  obtain ⟨J, hJ⟩ : ∃ J, J = joined xs := ⟨_, rfl⟩
  rw [← hJ] at hjl ⊢
  have HJ := Lib.hid hJ
  clear hJ
  go_enter Tryd.func20, Tryd.ntmps20
  go_wp2_with fail
  refine (joined_any pp cp xs _ (HR.out.mod0 ((Mod.refl [] w).alloc _)) (fun x hx => (HX.out x hx).mod0 ((Mod.refl [] w).alloc _)) hlen hl).mono ?_
  rintro e w1 ⟨v, rfl, ho, m1⟩
  rw [← HJ.out] at ho
  obtain ⟨q, c, rfl, hq, _⟩ := ho.rd
  have HQ := Lib.hid hq
  have M1 := ((Mod.refl [] w).alloc _).trans0 m1
  have HRES := Lib.hid (m1.get0 (hp_new w _ _ rfl))
  clear ho hq m1
  go_wp2_with fail
  refine (ref_sum q c J w1 HQ.out hjl (TabR.mod M1 HT.out (by simp)) (TabB.mod M1 HB.out (by simp))).mono ?_
  rintro e w2 ⟨rfl, m2⟩
  have hS := storeDv (fin J 0 0) (fin_length _ _ _) (m2.get0 HRES.out) rfl
  go_wp2_with fail
  exact bodyPost_ret (results_dv rfl _ _ _ _ (fin_length _ _ _) _ rfl (hp_setRow (m2.get0 HRES.out))) rfl ⟨rfl, (M1.trans0 m2).setRow (.inr (Nat.le_refl _)) _⟩
end Go.Proofs.YtmjdfglidfdkaaaDoor
