/- LadderWindow. No condition. -/
import Derived.Test.YtmjdfglidfdkaaaLwAwake
namespace Go.Proofs.Ytmjdfglidfdkaaa
open Go.RowKit
attribute [local go_sem high] one8 st8 cm8 b_and8 b_and8r b_and8l b_or8 b_or8r b_or8l b_xor8 b_xor8r b_xor8l b_andNot8 b_andNot8r b_andNot8l b_add8 b_add8r b_add8l b_sub8 b_sub8r b_sub8l b_mul8 b_mul8r b_mul8l b_eql8 b_eql8r b_eql8l b_neq8 b_neq8r b_neq8l b_lss8 b_lss8r b_lss8l b_leq8 b_leq8r b_leq8l b_gtr8 b_gtr8r b_gtr8l b_geq8 b_geq8r b_geq8l b_quo8r b_rem8r b_shl8r b_shr8r b_shl8l b_shr8l u_xor8 g_eql8 g_neq8 g_eql8' g_neq8' one32 st32 cm32 b_and32 b_and32r b_and32l b_or32 b_or32r b_or32l b_xor32 b_xor32r b_xor32l b_andNot32 b_andNot32r b_andNot32l b_add32 b_add32r b_add32l b_sub32 b_sub32r b_sub32l b_mul32 b_mul32r b_mul32l b_eql32 b_eql32r b_eql32l b_neq32 b_neq32r b_neq32l b_lss32 b_lss32r b_lss32l b_leq32 b_leq32r b_leq32l b_gtr32 b_gtr32r b_gtr32l b_geq32 b_geq32r b_geq32l b_quo32r b_rem32r b_shl32r b_shr32r b_shl32l b_shr32l u_xor32 g_eql32 g_neq32 g_eql32' g_neq32' one64 st64 cm64 b_and64 b_and64r b_and64l b_or64 b_or64r b_or64l b_xor64 b_xor64r b_xor64l b_andNot64 b_andNot64r b_andNot64l b_add64 b_add64r b_add64l b_sub64 b_sub64r b_sub64l b_mul64 b_mul64r b_mul64l b_eql64 b_eql64r b_eql64l b_neq64 b_neq64r b_neq64l b_lss64 b_lss64r b_lss64l b_leq64 b_leq64r b_leq64l b_gtr64 b_gtr64r b_gtr64l b_geq64 b_geq64r b_geq64l b_quo64r b_rem64r b_shl64r b_shr64r b_shl64l b_shr64l u_xor64 g_eql64 g_neq64 g_eql64' g_neq64' c_u8_u8 c_u8_u32 c_u8_u64 c_i_u8 c_u32_u8 c_u32_u32 c_u32_u64 c_i_u32 c_u64_u8 c_u64_u32 c_u64_u64 c_i_u64 c_u8_i c_u32_i
attribute [local go_sem ↓] ce8 ce32 ce64
attribute [local go_sem ↓] sliced_slp loadO25 storeO25 loadO44 storeO44 loadO35 loadO84 storeO84 buildO44 buildO25 buildO35 buildO23
def dgv (d : D32) : Value := .agg (d.1.map V8).toArray
theorem run_dig5 (w : World) : (BuildAO 23 #[(0, .int .u8 5)]).run Try.prog w = .ok (dgv dig5) w := run_build w _ _ _ (by kernel_rfl)
theorem run_cm3 (a b : Int) (w : World) : (BuildCO 25 #[(0, .int .i64 a), (1, dgv dig5), (3, .int .i64 b)]).run Try.prog w = .ok (cv ⟨a, dig5, z32, b⟩) w := run_build w _ _ _ (by kernel_rfl)
theorem newErr0 {c : Cm} {z : Int} (h : newErr c z = 0) : (cnt c.count = true ∧ cnt c.leaves = true) ∧ 1 ≤ z ∧ z ≤ 4611686018427387904 := by
  unfold newErr at h
  split at h
  · cases h
  · rename_i h1
    split at h
    · cases h
    · rename_i h2
      have e1 : ∀ b : Bool, b ≠ false → b = true := fun b hb => by cases b <;> simp_all
      exact ⟨⟨e1 _ (fun h => h1 (.inl h)), e1 _ (fun h => h1 (.inr h))⟩, by omega⟩
theorem tim_yes {n : Int} (h0 : 0 ≤ n) (h1 : n ≤ 4611686018427387904) : tim n = true := by unfold tim; simp [h0, h1]
theorem cnt_yes {n : Int} (h0 : 0 ≤ n) (h1 : n ≤ 1099511627776) : cnt n = true := by unfold cnt; simp [h0, h1]
set_option maxRecDepth 100000 in
/-- No ladder: true. -/
theorem window_none (c : Cm) (z t : Int) (w : World) (h : newErr c z ≠ 0) :
    Calls Try.prog 4 #[cv c, .int .i64 z, .int .i64 t] w fun e w' => e = .returned (.bool true) ∧ Mod [] w w' := by
  have HN := Lib.hid (fun w1 => new_no c z w1 h)
  have HA := Lib.hid awake_any
  have hd : (newErr c z == 0) = false := by simpa using h
  have hd2 : (newErr c z != 0) = true := by simpa using h
  obtain ⟨er, her⟩ : ∃ er, er = newErr c z := ⟨_, rfl⟩
  rw [← her] at HN hd hd2
  have hL := fun (w1 : World) (h1 : w1.heap[w.heap.size]? = some (.cells c.cells.toArray 25 (0, 0))) => loadCm (range_blk h1 0 _ (fun j v hv => by simpa using hv))
  have HL := Lib.hid hL
  clear h her hL
  unfold cv
  go_enter Try.func4, Try.ntmps4
  go_wp2_with fail
  refine (HA.out _).mono ?_
  rintro e w1 ⟨rfl, m1⟩
  have hL1 := HL.out w1 (m1.get0 (hp_new _ _ _ rfl))
  have M1 := ((Mod.refl [] w).alloc (.cells c.cells.toArray 25)).trans0 m1
  clear m1
  go_wp2_with fail
  refine (HN.out _).mono ?_
  rintro e w2 ⟨rfl, m2⟩
  clear hL1
  go_wp2_with fail
  go_ret
  exact ⟨rfl, M1.trans0 m2⟩
set_option maxRecDepth 100000 in
/-- Out of the bounds that the law speaks of: true. -/
theorem window_out (c : Cm) (z t : Int) (w : World) (h : newErr c z = 0) (ho : 1099511627776 ≤ c.count ∨ t < 0 ∨ 4611686018427387904 ≤ t) :
    Calls Try.prog 4 #[cv c, .int .i64 z, .int .i64 t] w fun e w' => e = .returned (.bool true) ∧ Mod [] w w' := by
  have HN := Lib.hid (fun w1 (hB : w.heap.size ≤ w1.heap.size) => new_yes w.heap.size c z w1 h hB)
  have HA := Lib.hid awake_any
  have hL := fun (w1 : World) (h1 : w1.heap[w.heap.size]? = some (.cells c.cells.toArray 25 (0, 0))) => loadCm (range_blk h1 0 _ (fun j v hv => by simpa using hv))
  have HL := Lib.hid hL
  have hways : (decide (1099511627776 ≤ c.count) = true) ∨ (decide (1099511627776 ≤ c.count) = false ∧ decide (t < 0) = true) ∨ (decide (1099511627776 ≤ c.count) = false ∧ decide (t < 0) = false ∧ decide (4611686018427387904 ≤ t) = true) := by
    by_cases h1 : 1099511627776 ≤ c.count
    · left; simpa using h1
    · by_cases h2 : t < 0
      · right; left; exact ⟨by simpa using h1, by simpa using h2⟩
      · right; right; exact ⟨by simp; omega, by simp; omega, by simp; omega⟩
  clear h ho hL
  unfold cv
  rcases hways with d1 | ⟨d1, d2⟩ | ⟨d1, d2, d3⟩
  all_goals
    go_enter Try.func4, Try.ntmps4
    go_wp2_with fail
    refine (HA.out _).mono ?_
    rintro e w1 ⟨rfl, m1⟩
    have hL1 := HL.out w1 (m1.get0 (hp_new _ _ _ rfl))
    have M1 := ((Mod.refl [] w).alloc (.cells c.cells.toArray 25)).trans0 m1
    have HX1 := Lib.hid (m1.get0 (hp_new w (.cells c.cells.toArray 25) _ rfl))
    clear m1
    go_wp2_with fail
    refine (HN.out _ M1.size).mono ?_
    rintro e w2 ⟨g, rfl, _, _, m2⟩
    have hx0 : w2.cell? ⟨w.heap.size, 0, none⟩ = some (.int .i64 c.count) := by rw [cell_blk (m2.get0 HX1.out), List.getElem?_toArray]; exact c.c0
    clear hL1
    go_wp2_with fail
    go_ret
    exact ⟨rfl, M1.trans0 m2⟩
end Go.Proofs.Ytmjdfglidfdkaaa
