/- Bits of the package. Conditions: as DgFns. -/
import Derived.Test.YtmjdfglidfdkaaaDoorDgSum
namespace Go.Proofs.YtmjdfglidfdkaaaDoor
open Go.RowKit
attribute [local go_sem high] one8 st8 cm8 b_and8 b_and8r b_and8l b_or8 b_or8r b_or8l b_xor8 b_xor8r b_xor8l b_andNot8 b_andNot8r b_andNot8l b_add8 b_add8r b_add8l b_sub8 b_sub8r b_sub8l b_mul8 b_mul8r b_mul8l b_eql8 b_eql8r b_eql8l b_neq8 b_neq8r b_neq8l b_lss8 b_lss8r b_lss8l b_leq8 b_leq8r b_leq8l b_gtr8 b_gtr8r b_gtr8l b_geq8 b_geq8r b_geq8l b_quo8r b_rem8r b_shl8r b_shr8r b_shl8l b_shr8l u_xor8 g_eql8 g_neq8 g_eql8' g_neq8' one32 st32 cm32 b_and32 b_and32r b_and32l b_or32 b_or32r b_or32l b_xor32 b_xor32r b_xor32l b_andNot32 b_andNot32r b_andNot32l b_add32 b_add32r b_add32l b_sub32 b_sub32r b_sub32l b_mul32 b_mul32r b_mul32l b_eql32 b_eql32r b_eql32l b_neq32 b_neq32r b_neq32l b_lss32 b_lss32r b_lss32l b_leq32 b_leq32r b_leq32l b_gtr32 b_gtr32r b_gtr32l b_geq32 b_geq32r b_geq32l b_quo32r b_rem32r b_shl32r b_shr32r b_shl32l b_shr32l u_xor32 g_eql32 g_neq32 g_eql32' g_neq32' one64 st64 cm64 b_and64 b_and64r b_and64l b_or64 b_or64r b_or64l b_xor64 b_xor64r b_xor64l b_andNot64 b_andNot64r b_andNot64l b_add64 b_add64r b_add64l b_sub64 b_sub64r b_sub64l b_mul64 b_mul64r b_mul64l b_eql64 b_eql64r b_eql64l b_neq64 b_neq64r b_neq64l b_lss64 b_lss64r b_lss64l b_leq64 b_leq64r b_leq64l b_gtr64 b_gtr64r b_gtr64l b_geq64 b_geq64r b_geq64l b_quo64r b_rem64r b_shl64r b_shr64r b_shl64l b_shr64l u_xor64 g_eql64 g_neq64 g_eql64' g_neq64' c_u8_u8 c_u8_u32 c_u8_u64 c_i_u8 c_u32_u8 c_u32_u32 c_u32_u64 c_i_u32 c_u64_u8 c_u64_u32 c_u64_u64 c_i_u64 c_u8_i c_u32_i
attribute [local go_sem ↓] ce8 ce32 ce64
attribute [local go_sem ↓] sliced_slp loadO62 loadO64 storeO62 storeO64 loadO26 storeO26 loadO66 storeO66
attribute [local irreducible] compress hst pad1 fin
theorem bits_no (p : Option Addr) (cap : Nat) (d : List UInt8) (n : Int) (w : World) (hn : n < 0 ∨ 8 * (d.length : Int) < n) (hn3 : n ≤ 9223372036854775807) (hd : d.length < 140737488355328) :
    Calls Tryd.prog 31 #[.slice p d.length cap, .int .i64 n] w fun e w' => e = .returned (.tuple #[dv (zeros 32), .int .i64 11]) ∧ Mod [] w w' := by
  have hS := fun (Z : Array Value) (hZ : Z.size = 32) => storeDv (w := w.alloc (.cells Z 26)) (zeros 32) (zeros_length 32) (hp_new w _ _ rfl) hZ
  change ∀ (Z : Array Value) (hZ : Z.size = 32), (StoreO _ _ (.agg _)).run _ _ = _ at hS
  have fin_ : ∀ (Z : Array Value) (tmps : Array Value), tmps.getD 4 undef = .pointer (some ⟨w.heap.size, 0, none⟩) → tmps.getD 5 undef = .int .i64 11 → bodyPost Tryd.prog Tryd.f31 (fun e w' => e = .returned (.tuple #[dv (zeros 32), .int .i64 11]) ∧ Mod [] w w') .ret { tmps := tmps, defers := [] } ((w.alloc (.cells Z 26)).setRow w.heap.size ((zeros 32).map V8).toArray) := fun Z tmps h4 h5 => by
    refine bodyPost_ret (results_dv2 rfl _ _ _ _ (zeros_length 32) _ h4 (hp_setRow (hp_new w (.cells Z 26) _ rfl))) rfl ⟨?_, ((Mod.refl [] w).alloc _).setRow (.inr (Nat.le_refl _)) _⟩
    rw [h5]
  have HF := Lib.hid fin_
  clear fin_
  by_cases h0 : n < 0
  · go_enter Tryd.func31, Tryd.ntmps31
    go_wp2_with (refine wpList_built rfl 26 _ rfl ((zeros 32).map V8).toArray built26 ?_)
    exact HF.out _ _ rfl rfl
  · have h1 : 8 * (d.length : Int) < n := by omega
    by_cases h2 : n ≤ 9223372036854775800
    · have h3 : (d.length : Int) < (n + 7) / 8 := by omega
      go_enter Tryd.func31, Tryd.ntmps31
      go_wp2_with (refine wpList_built rfl 26 _ rfl ((zeros 32).map V8).toArray built26 ?_)
      exact HF.out _ _ rfl rfl
    · have h3 : (d.length : Int) < n / 8 := by omega
      have h4 : wrap64 (n + 7) = n + 7 - 18446744073709551616 := by unfold wrap64; omega
      go_enter Tryd.func31, Tryd.ntmps31
      go_wp2_with (refine wpList_built rfl 26 _ rfl ((zeros 32).map V8).toArray built26 ?_)
      all_goals exact HF.out _ _ rfl rfl

/-- What Bits answers: whole bytes, and the first m bits of the one that follows. -/
def bitsOf (d : List UInt8) (n : Nat) : List UInt8 := if n % 8 = 0 then fin (d.take (n / 8)) 0 0 else fin (d.take (n / 8)) (d.getD (n / 8) 0) (n % 8)
theorem bits_yes (p : Option Addr) (cap : Nat) (d : List UInt8) (n : Nat) (w : World) (hr : Rd V8 w p cap d) (ht : Tab w) (hg1 : 1 < w.heap.size) (hn : n ≤ 8 * d.length) (hd : d.length < 140737488355328) :
    Calls Tryd.prog 31 #[.slice p d.length cap, .int .i64 n] w fun e w' => e = .returned (.tuple #[dv (bitsOf d n), .int .i64 0]) ∧ Mod [] w w' := by
  have hl' : (d.take (n / 8)).length = n / 8 := by simp; omega
  have HW := fun (g : Nat) (w1 : World) (hh : IsHash w1 g []) (hm : Mod [] w w1) (hg : w.heap.size < g) =>
    write_any g [] p cap (d.take (n / 8)) w1 hh ((hr.take (n / 8)).mod0 hm) (fun hne => (hr.take (n / 8)).off (by omega) hne) (Tab.mod hm ht (by simp)) (by omega) (by rw [hl']; simp; omega)
  rw [hl'] at HW
  simp only [List.nil_append] at HW
  have HW := Lib.hid HW
  have HT := Lib.hid ht
  have HR := Lib.hid hr
  have hlc := hr.le
  clear hr ht hl'
  have hq : n / 8 ≤ d.length := by omega
  have h1 : (((n : Int) + 7) / 8) ≤ (d.length : Int) := by omega
  have h2 : ((n : Int) / 8) ≤ (d.length : Int) := by omega
  by_cases hm : n % 8 = 0
  · have hm' : ((n : Int) % 8) = 0 := by omega
    go_enter Tryd.func31, Tryd.ntmps31
    go_wp2_with (go_at_call 22; refine (new_any _).mono ?_; rintro e w1 ⟨g, rfl, hgw, hh, hm1⟩)
    have hm2 := Lib.hid (((Mod.refl [] w).alloc _).trans0 hm1)
    have HRES := Lib.hid (hm1.get0 (hp_new _ _ _ rfl))
    have hgw' : w.heap.size < g := by have := hgw; simp at this; omega
    refine (HW.out g _ hh hm2.out hgw').mono ?_
    clear hh hm1 hgw
    rintro e w5 ⟨rfl, hh5, hm5⟩
    have hm6 := Lib.hid (hm2.out.trans hm5 (fun y hy => .inr (by simp at hy; omega)))
    have HH := Lib.hid hh5
    have HRES := Lib.hid (hm5.get HRES.out (by simp; omega))
    clear hh5 hm5
    go_wp2_with (go_at_call 25; refine (sum_any g _ _ HH.out (Tab.mod hm6.out HT.out (by simp))).mono ?_; rintro e w7 ⟨rfl, hm7⟩
                 have hS := storeDv (fin (d.take (n / 8)) 0 0) (fin_length _ _ _) (hm7.get0 HRES.out) rfl)
    refine bodyPost_ret (results_dv2 rfl _ _ _ _ (fin_length (d.take (n / 8)) 0 0) _ rfl (hp_setRow (hm7.get0 HRES.out))) rfl ⟨?_, (hm6.out.trans0 hm7).setRow (.inr (Nat.le_refl _)) _⟩
    simp [bitsOf, hm]
  · have hm' : ¬ ((n : Int) % 8) = 0 := by omega
    have hq2 : n / 8 < d.length := by omega
    have hx : d[n / 8]? = some (d.getD (n / 8) 0) := by simp [List.getElem?_eq_getElem hq2]
    obtain ⟨b, o, rfl, hc⟩ := HR.out.cell (n / 8) _ hx
    have hb : b < w.heap.size := block_lt_of_cell hc
    have HX := Lib.hid hx
    have HC := Lib.hid hc
    clear hx hc
    generalize hlast : d.getD (n / 8) 0 = last at *
    have HLAST := Lib.hid hlast
    clear hlast
    have HE := fun (g : Nat) (l : List UInt8) (w : World) (h : IsHash w g l) (ht : Tab w) => end_any g l last (n % 8) w h ht (by omega)
    rw [show ((n % 8 : Nat) : Int) = (n : Int) % 8 from by omega] at HE
    have HE := Lib.hid HE
    go_enter Tryd.func31, Tryd.ntmps31
    go_wp2_with (go_at_call 22; refine (new_any _).mono ?_; rintro e w1 ⟨g, rfl, hgw, hh, hm1⟩)
    have hm2 := Lib.hid (((Mod.refl [] w).alloc _).trans0 hm1)
    have HRES := Lib.hid (hm1.get0 (hp_new _ _ _ rfl))
    have hgw' : w.heap.size < g := by have := hgw; simp at this; omega
    refine (HW.out g _ hh hm2.out hgw').mono ?_
    clear hh hm1 hgw
    rintro e w5 ⟨rfl, hh5, hm5⟩
    have hm6 := Lib.hid (hm2.out.trans hm5 (fun y hy => .inr (by simp at hy; omega)))
    have HH := Lib.hid hh5
    have HRES := Lib.hid (hm5.get HRES.out (by simp; omega))
    have hcr : w5.cell? ⟨b, o + n / 8, none⟩ = some (V8 last) := by
      rw [World.cell?_of_block (w := w) (hm6.out.block b hb (by simp))]; exact HC.out
    clear hh5 hm5
    go_wp2_with (go_at_call 40; refine (end_any g _ last (n % 8) _ HH.out (Tab.mod hm6.out HT.out (by simp)) (by omega)).mono ?_; rintro e w7 ⟨rfl, hm7⟩
                 have hS := storeD (fin (d.take (n / 8)) last (n % 8)) (fin_length _ _ _) (hm7.get0 HRES.out) rfl)
    refine bodyPost_ret (results_dv2 rfl _ _ _ _ (fin_length (d.take (n / 8)) last (n % 8)) _ rfl (hp_setRow (hm7.get0 HRES.out))) rfl ⟨?_, (hm6.out.trans0 hm7).setRow (.inr (Nat.le_refl _)) _⟩
    unfold bitsOf
    rw [if_neg hm, HLAST.out]
    rfl
end Go.Proofs.YtmjdfglidfdkaaaDoor
