/- LadderWindow, where there is a ladder. No condition. -/
import Derived.Test.YtmjdfglidfdkaaaLwWindow
namespace Go.Proofs.Ytmjdfglidfdkaaa
open Go.RowKit
attribute [local go_sem high] one8 st8 cm8 b_and8 b_and8r b_and8l b_or8 b_or8r b_or8l b_xor8 b_xor8r b_xor8l b_andNot8 b_andNot8r b_andNot8l b_add8 b_add8r b_add8l b_sub8 b_sub8r b_sub8l b_mul8 b_mul8r b_mul8l b_eql8 b_eql8r b_eql8l b_neq8 b_neq8r b_neq8l b_lss8 b_lss8r b_lss8l b_leq8 b_leq8r b_leq8l b_gtr8 b_gtr8r b_gtr8l b_geq8 b_geq8r b_geq8l b_quo8r b_rem8r b_shl8r b_shr8r b_shl8l b_shr8l u_xor8 g_eql8 g_neq8 g_eql8' g_neq8' one32 st32 cm32 b_and32 b_and32r b_and32l b_or32 b_or32r b_or32l b_xor32 b_xor32r b_xor32l b_andNot32 b_andNot32r b_andNot32l b_add32 b_add32r b_add32l b_sub32 b_sub32r b_sub32l b_mul32 b_mul32r b_mul32l b_eql32 b_eql32r b_eql32l b_neq32 b_neq32r b_neq32l b_lss32 b_lss32r b_lss32l b_leq32 b_leq32r b_leq32l b_gtr32 b_gtr32r b_gtr32l b_geq32 b_geq32r b_geq32l b_quo32r b_rem32r b_shl32r b_shr32r b_shl32l b_shr32l u_xor32 g_eql32 g_neq32 g_eql32' g_neq32' one64 st64 cm64 b_and64 b_and64r b_and64l b_or64 b_or64r b_or64l b_xor64 b_xor64r b_xor64l b_andNot64 b_andNot64r b_andNot64l b_add64 b_add64r b_add64l b_sub64 b_sub64r b_sub64l b_mul64 b_mul64r b_mul64l b_eql64 b_eql64r b_eql64l b_neq64 b_neq64r b_neq64l b_lss64 b_lss64r b_lss64l b_leq64 b_leq64r b_leq64l b_gtr64 b_gtr64r b_gtr64l b_geq64 b_geq64r b_geq64l b_quo64r b_rem64r b_shl64r b_shr64r b_shl64l b_shr64l u_xor64 g_eql64 g_neq64 g_eql64' g_neq64' c_u8_u8 c_u8_u32 c_u8_u64 c_i_u8 c_u32_u8 c_u32_u32 c_u32_u64 c_i_u32 c_u64_u8 c_u64_u32 c_u64_u64 c_i_u64 c_u8_i c_u32_i
attribute [local go_sem ↓] ce8 ce32 ce64
attribute [local go_sem ↓] sliced_slp loadO25 storeO25 loadO44 storeO44 loadO35 loadO84 storeO84 buildO44 buildO25 buildO35 buildO23
def nextCm (c : Cm) : Cm := ⟨c.count + 1, dig5, z32, c.leaves⟩
theorem Ok0 {c : Cm} {z : Int} (h : newErr c z = 0) : Lad.Ok ⟨c, [], z, 0, 0⟩ 1 := by
  obtain ⟨hc, h1, h2⟩ := newErr0 h
  exact ⟨h1, h2, (by show (0 : Int) ≤ 0; decide), (by show (0 : Int) ≤ 4611686018427387904; decide), (by show (0 : Int) ≤ 0; decide), (by show (0 : Int) ≤ ((1 : Nat) : Int); decide), hc, by simp, by simp⟩
theorem post0 {c : Cm} {z t : Int} (h : newErr c z = 0) (h0 : c.count < 1099511627776) (ht0 : 0 ≤ t) (ht1 : t < 4611686018427387904) : Lad.postErr ⟨c, [], z, 0, 0⟩ (nextCm c) (c.count + 1) t = if 4611686018427387904 - z < t then 168 else 0 := by
  obtain ⟨⟨hc, hl⟩, h1, h2⟩ := newErr0 h
  have hcb := Lad.cnt_bd hc
  have hlb := Lad.cnt_bd hl
  have hc2 : cnt (c.count + 1) = true := cnt_yes (by omega) (by omega)
  unfold Lad.postErr
  have htop : Lad.top ⟨c, [], z, 0, 0⟩ = c := rfl
  rw [htop]
  simp only [tim_yes ht0 (by omega)]
  by_cases hw : 4611686018427387904 - z < t
  · simp [hw]
  · rw [if_neg hw, if_neg (by simp; omega), if_neg ?_, if_neg (by show ¬ c.count + 1 < c.count + 1; omega), if_neg (by simp)]
    show ¬ (cnt (c.count + 1) = false ∨ c.count + 1 ≤ c.count ∨ 1024 < c.count + 1 - c.count ∨ cnt c.leaves = false ∨ c.leaves < c.leaves)
    rw [hc2, hl]
    simp
    omega
set_option maxRecDepth 100000 in
/-- Its window can't be waited for. -/
theorem window_late (c : Cm) (z t : Int) (w : World) (h : newErr c z = 0) (h0 : c.count < 1099511627776) (ht0 : 0 ≤ t) (ht1 : t < 4611686018427387904) (hw : 4611686018427387904 - z < t) :
    Calls Try.prog 4 #[cv c, .int .i64 z, .int .i64 t] w fun e w' => e = .returned (.bool true) ∧ Mod [] w w' := by
  have HN := Lib.hid (fun w1 (hB : w.heap.size ≤ w1.heap.size) => new_yes w.heap.size c z w1 h hB)
  have HA := Lib.hid awake_any
  have hL := fun (w1 : World) (h1 : w1.heap[w.heap.size]? = some (.cells c.cells.toArray 25 (0, 0))) => loadCm (range_blk h1 0 _ (fun j v hv => by simpa using hv))
  have HL := Lib.hid hL
  have hpe := post0 h h0 ht0 ht1
  rw [if_pos hw] at hpe
  have hpn := fun (g : Nat) (w1 : World) (h1 : IsL w1 w.heap.size g (.slice none 0 0) ⟨c, [], z, 0, 0⟩) => post_no w.heap.size g _ _ w1 h1 1 (Ok0 h) (nextCm c) (adr 1) (c.count + 1) t (by rw [hpe]; decide)
  rw [hpe] at hpn
  have HPN := Lib.hid hpn
  obtain ⟨⟨hcc, _⟩, hz1, hz2⟩ := newErr0 h
  obtain ⟨hc0, _⟩ := Lad.cnt_bd hcc
  have d1 : decide (1099511627776 ≤ c.count) = false := by simp; omega
  have d2 : decide (t < 0) = false := by simp; omega
  have d3 : decide (4611686018427387904 ≤ t) = false := by simp; omega
  have d4 : decide (4611686018427387904 - z < t) = true := by simpa using hw
  have hB1 := run_dig5
  have hB2 := run_cm3 (c.count + 1) c.leaves
  have hB3 := run_adr 1 1 rfl
  have hz25 : Try.zeroCells25.size = 66 := by kernel_rfl
  have HZ25 := Lib.hid hz25
  clear h hL hpe hpn hcc hw hz25
  unfold cv
  go_enter Try.func4, Try.ntmps4
  go_wp2_with fail
  refine (HA.out _).mono ?_
  rintro e w1 ⟨rfl, m1⟩
  have hL1 := HL.out w1 (m1.get0 (hp_new _ _ _ rfl))
  have M1 := ((Mod.refl [] w).alloc (.cells c.cells.toArray 25)).trans0 m1
  have HX1 := Lib.hid (m1.get0 (hp_new w (.cells c.cells.toArray 25) _ rfl))
  clear m1
  go_wp2_with fail
  refine (HN.out _ M1.size).mono ?_
  rintro e w2 ⟨g, rfl, _, hl2, m2⟩
  have hx0 : w2.cell? ⟨w.heap.size, 0, none⟩ = some (.int .i64 c.count) := by rw [cell_blk (m2.get0 HX1.out), List.getElem?_toArray]; exact c.c0
  have hx65 : w2.cell? ⟨w.heap.size, 65, none⟩ = some (.int .i64 c.leaves) := by rw [cell_blk (m2.get0 HX1.out), List.getElem?_toArray]; exact c.c65
  have M2 := (M1.trans0 m2).alloc (.cells (nextCm c).cells.toArray 25)
  have hS := storeNewCm w2 (nextCm c) _ HZ25.out
  change (StoreO _ _ (cv ⟨c.count + 1, dig5, z32, c.leaves⟩)).run _ _ = _ at hS
  have hLn := loadCm (c := nextCm c) (range_blk (hp_new w2 (.cells (nextCm c).cells.toArray 25) _ rfl) 0 _ (fun j v hv => by simpa using hv))
  have hn0 : (w2.alloc (.cells (nextCm c).cells.toArray 25)).cell? ⟨w2.heap.size, 0, none⟩ = some (.int .i64 (c.count + 1)) := (box_cm w2 (nextCm c)).1
  have HL3 := Lib.hid (hl2.mod0 ((Mod.refl [] w2).alloc (.cells (nextCm c).cells.toArray 25)))
  clear hL1 m2 M1 hl2
  go_wp2_with fail
  refine (HPN.out g _ HL3.out).mono ?_
  rintro e w4 ⟨rfl, m4⟩
  clear hS hLn hn0 hx0 hx65
  go_wp2_with fail
  go_ret
  exact ⟨rfl, M2.trans0 m4⟩
end Go.Proofs.Ytmjdfglidfdkaaa
