/- What words does: the sixty-four words of a piece. No condition. -/
import Derived.Test.YtmdgefiojapogaaDoorRows
import Derived.Test.YtmdgefiojapogaaDoorDgPure
namespace Go.Proofs.YtmdgefiojapogaaDoor
open Go.RowKit
attribute [local go_sem high] one8 st8 cm8 b_and8 b_and8r b_and8l b_or8 b_or8r b_or8l b_xor8 b_xor8r b_xor8l b_andNot8 b_andNot8r b_andNot8l b_add8 b_add8r b_add8l b_sub8 b_sub8r b_sub8l b_mul8 b_mul8r b_mul8l b_eql8 b_eql8r b_eql8l b_neq8 b_neq8r b_neq8l b_lss8 b_lss8r b_lss8l b_leq8 b_leq8r b_leq8l b_gtr8 b_gtr8r b_gtr8l b_geq8 b_geq8r b_geq8l b_quo8r b_rem8r b_shl8r b_shr8r b_shl8l b_shr8l u_xor8 g_eql8 g_neq8 g_eql8' g_neq8' one32 st32 cm32 b_and32 b_and32r b_and32l b_or32 b_or32r b_or32l b_xor32 b_xor32r b_xor32l b_andNot32 b_andNot32r b_andNot32l b_add32 b_add32r b_add32l b_sub32 b_sub32r b_sub32l b_mul32 b_mul32r b_mul32l b_eql32 b_eql32r b_eql32l b_neq32 b_neq32r b_neq32l b_lss32 b_lss32r b_lss32l b_leq32 b_leq32r b_leq32l b_gtr32 b_gtr32r b_gtr32l b_geq32 b_geq32r b_geq32l b_quo32r b_rem32r b_shl32r b_shr32r b_shl32l b_shr32l u_xor32 g_eql32 g_neq32 g_eql32' g_neq32' one64 st64 cm64 b_and64 b_and64r b_and64l b_or64 b_or64r b_or64l b_xor64 b_xor64r b_xor64l b_andNot64 b_andNot64r b_andNot64l b_add64 b_add64r b_add64l b_sub64 b_sub64r b_sub64l b_mul64 b_mul64r b_mul64l b_eql64 b_eql64r b_eql64l b_neq64 b_neq64r b_neq64l b_lss64 b_lss64r b_lss64l b_leq64 b_leq64r b_leq64l b_gtr64 b_gtr64r b_gtr64l b_geq64 b_geq64r b_geq64l b_quo64r b_rem64r b_shl64r b_shr64r b_shl64l b_shr64l u_xor64 g_eql64 g_neq64 g_eql64' g_neq64' c_u8_u8 c_u8_u32 c_u8_u64 c_i_u8 c_u32_u8 c_u32_u32 c_u32_u64 c_i_u32 c_u64_u8 c_u64_u32 c_u64_u64 c_i_u64 c_u8_i c_u32_i
attribute [local go_sem ↓] ce8 ce32 ce64
theorem and31 (k : Int) : bits .and .u64 (IntKind.u64.wrap k) 31 = (((k % 32).toNat : Nat) : Int) := by
  rw [wr64]
  obtain ⟨m, hm⟩ := Int.eq_ofNat_of_zero_le (show 0 ≤ k % 18446744073709551616 by omega)
  rw [hm, show (31 : Int) = ((31 : Nat) : Int) from rfl, u64_and_nat m 31 (by omega) (by decide), show (31 : Nat) = 2 ^ 5 - 1 from rfl, Nat.and_two_pow_sub_one_eq_mod]
  omega
theorem rot_any (x : UInt32) (k : Int) (w : World) (h0 : 0 < (k % 32).toNat) :
    Calls Tryd.prog 84 #[V32 x, .int .i64 k] w fun e w' => e = .returned (V32 (rotk x k)) ∧ w = w' := by
  have hk := and31 k
  have h : (k % 32).toNat < 32 := by omega
  unfold rotk
  generalize (k % 32).toNat = s at *
  have h1 : IntKind.u64.wrap (32 - (s : Int)) = ((32 - s : Nat) : Int) := by rw [wr64]; omega
  have h2 : ((32 - s : Nat) : Int) < 32 := by omega
  have h3 : (s : Int) < 32 := by omega
  go_enter Tryd.func84, Tryd.ntmps84
  go_wp2
  go_ret
  exact ⟨rfl, rfl⟩
theorem words_any (p : List UInt8) (w : World) (hp : p.length = 64) :
    Calls Tryd.prog 83 #[.agg (p.map V8).toArray] w fun e w' => e = .returned (.agg ((words p).map V32).toArray) ∧ Mod [] w w' := by
  go_enter Tryd.func83, Tryd.ntmps83
  go_wp2
  go_loopw [4, 8] (fun _ i wr => ∃ (k n : Nat) (ws : List UInt32) (Z : Array Value), k ≤ 16 ∧ Z.size = 64 ∧ ws.length = 64 ∧ ws.take k = (List.range k).map (wword p) ∧ i = .int .i64 k ∧
      wr = (((w.alloc (.cells (p.map V8).toArray 126)).alloc (.cells Z 138)).alloc (.cells (ws.map V32).toArray 138)).drewN n) (fun _ i _ => 16 - (intOf i).toNat)
  case atStart => exact ⟨0, 0, List.replicate 64 0, _, by omega, rfl, by simp, by simp, rfl, rfl⟩
  case round =>
    obtain ⟨k, n, ws, Z, hk, hZ, hws, htk, rfl, rfl⟩ := hrel
    have HT := Lib.hid htk
    clear htk
    by_cases hlt : k < 16
    · have c0 : (p.map V8)[4 * k]? = some (V8 (p.getD (4*k) 0)) := by simp [List.getElem?_eq_getElem (show 4 * k < p.length by omega)]
      have c1 : (p.map V8)[4 * k + 1]? = some (V8 (p.getD (4*k+1) 0)) := by simp [List.getElem?_eq_getElem (show 4 * k + 1 < p.length by omega)]
      have c2 : (p.map V8)[4 * k + 2]? = some (V8 (p.getD (4*k+2) 0)) := by simp [List.getElem?_eq_getElem (show 4 * k + 2 < p.length by omega)]
      have c3 : (p.map V8)[4 * k + 3]? = some (V8 (p.getD (4*k+3) 0)) := by simp [List.getElem?_eq_getElem (show 4 * k + 3 < p.length by omega)]
      have c4 : (ws.map V32)[k]? = some (V32 (ws.getD k 0)) := by simp [List.getElem?_eq_getElem (show k < ws.length by omega)]
      go_wp2
      go_region
      go_wp2
      go_roundw
      case rel =>
        refine ⟨k + 1, n + 1, ws.set k (wword p k), Z, by omega, hZ, by simpa using hws, ?_, by go_num, ?_⟩
        · rw [take_set_succ _ _ _ (by omega), HT.out, map_range_succ]
        · rw [setCell_drewN, alloc_set _ _ _ _ _ _ (by simp), ← map_set]
          simp [wword, be]
      case measure => simp [intOf]; omega
    · have hw : ws.take 16 = (List.range 16).map (wword p) := by
        have h16 : k = 16 := by omega
        have := HT.out
        rwa [h16] at this
      have HW := Lib.hid hw
      have hd : decide ((k : Int) < 16) = false := by simp; omega
      clear HT hlt hw
      go_wp2
      have hw := HW.out
      clear hd
      go_loopw [5] (fun i wr => ∃ (j n : Nat) (ws : List UInt32), 16 ≤ j ∧ j ≤ 64 ∧ ws.length = 64 ∧ ws.take j = wext (j - 16) (w0 p) ∧ i = .int .i64 j ∧
          wr = (((w.alloc (.cells (p.map V8).toArray 126)).alloc (.cells Z 138)).alloc (.cells (ws.map V32).toArray 138)).drewN n) (fun i _ => 64 - (intOf i).toNat)
      case atStart => exact ⟨16, n, ws, by omega, by omega, hws, by rw [hw]; rfl, rfl, rfl⟩
      case round =>
        clear hw HW hws
        clear ws n
        obtain ⟨j, n, ws, hj, ht, hws, htk, rfl, rfl⟩ := hrel
        have HT := Lib.hid htk
        clear htk
        by_cases hlt : j < 64
        · have c2 : (ws.map V32)[j - 2]? = some (V32 (ws.getD (j - 2) 0)) := cell_map _ _ _ _ (by omega)
          have c15 : (ws.map V32)[j - 15]? = some (V32 (ws.getD (j - 15) 0)) := cell_map _ _ _ _ (by omega)
          have c7 : (ws.map V32)[j - 7]? = some (V32 (ws.getD (j - 7) 0)) := cell_map _ _ _ _ (by omega)
          have c16 : (ws.map V32)[j - 16]? = some (V32 (ws.getD (j - 16) 0)) := cell_map _ _ _ _ (by omega)
          have c0 : (ws.map V32)[j]? = some (V32 (ws.getD j 0)) := cell_map _ _ _ _ (by omega)
          go_wp2
          go_region
          go_wp2_with (go_at_call 84; refine (rot_any _ _ _ (by decide)).mono ?_; rintro e w' ⟨rfl, rfl⟩)
          go_region
          go_wp2
          go_roundw
          case rel =>
            refine ⟨j + 1, n + 1 + 1, ws.set j (wnext ws j), by omega, by omega, by simpa using hws, ?_, by go_num, ?_⟩
            · rw [take_set_succ _ _ _ (by omega), wnext_of_take HT.out (by omega), HT.out, show j + 1 - 16 = (j - 16) + 1 by omega, wext, show 16 + (j - 16) = j by omega]
            · rw [setCell_drewN, alloc_set _ _ _ _ _ _ (by simp), ← map_set]
              rfl
          case measure => simp [intOf]; omega
        · obtain rfl : j = 64 := by omega
          have hw := HT.out
          clear HT hlt ht
          have i80 : (Tryd.prog.info? 138).map (·.size) = some ((ws.map V32).toArray).size := by
            have : (Tryd.prog.info? 138).map (·.size) = some 64 := by kernel_rfl
            simpa [hws] using this
          have h2 := hp_drewN (n := n) (hp_new ((w.alloc (.cells (p.map V8).toArray 126)).alloc (.cells Z 138)) (.cells (ws.map V32).toArray 138) (w.heap.size + 1 + 1) (by simp))
          have h1 := hp_drewN (n := n) (hp_old (o := .cells (ws.map V32).toArray 138) (hp_new (w.alloc (.cells (p.map V8).toArray 126)) (.cells Z 138) (w.heap.size + 1) (by simp)))
          have H1 := Lib.hid h1
          have H2 := Lib.hid h2
          have I80 := Lib.hid i80
          clear h1 h2 i80
          go_wp2_with (first | (refine wpList_load_row rfl 138 _ rfl _ rfl 138 _ (0, 0) _ H2.out Tryd.underlying138 rfl I80.out ?_) | (refine wpList_store_row rfl 138 _ _ rfl _ _ rfl rfl 138 _ H1.out I80.out (by simp [hZ, hws]) (by simp [one32]) ?_))
          have hres := hp_setRow (cs := (ws.map V32).toArray) H1.out
          refine bodyPost_ret (results_cell_row rfl _ _ _ _ _ _ _ rfl hres Tryd.underlying138 rfl I80.out) rfl ⟨?_, ?_⟩
          · rw [List.take_of_length_le (by omega)] at hw
            rw [hw]; rfl
          · exact ((((Mod.refl [] w).alloc _).alloc _).alloc _ |>.drewN _).setRow (.inr (by omega)) _
end Go.Proofs.YtmdgefiojapogaaDoor
