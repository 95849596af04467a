/- awake of the ladder's laws. No condition. -/
import Derived.Test.YtmjdfglidfdkaaaLdEq
namespace Go.Proofs.Ytmjdfglidfdkaaa
open Go.RowKit
attribute [local go_sem high] one8 st8 cm8 b_and8 b_and8r b_and8l b_or8 b_or8r b_or8l b_xor8 b_xor8r b_xor8l b_andNot8 b_andNot8r b_andNot8l b_add8 b_add8r b_add8l b_sub8 b_sub8r b_sub8l b_mul8 b_mul8r b_mul8l b_eql8 b_eql8r b_eql8l b_neq8 b_neq8r b_neq8l b_lss8 b_lss8r b_lss8l b_leq8 b_leq8r b_leq8l b_gtr8 b_gtr8r b_gtr8l b_geq8 b_geq8r b_geq8l b_quo8r b_rem8r b_shl8r b_shr8r b_shl8l b_shr8l u_xor8 g_eql8 g_neq8 g_eql8' g_neq8' one32 st32 cm32 b_and32 b_and32r b_and32l b_or32 b_or32r b_or32l b_xor32 b_xor32r b_xor32l b_andNot32 b_andNot32r b_andNot32l b_add32 b_add32r b_add32l b_sub32 b_sub32r b_sub32l b_mul32 b_mul32r b_mul32l b_eql32 b_eql32r b_eql32l b_neq32 b_neq32r b_neq32l b_lss32 b_lss32r b_lss32l b_leq32 b_leq32r b_leq32l b_gtr32 b_gtr32r b_gtr32l b_geq32 b_geq32r b_geq32l b_quo32r b_rem32r b_shl32r b_shr32r b_shl32l b_shr32l u_xor32 g_eql32 g_neq32 g_eql32' g_neq32' one64 st64 cm64 b_and64 b_and64r b_and64l b_or64 b_or64r b_or64l b_xor64 b_xor64r b_xor64l b_andNot64 b_andNot64r b_andNot64l b_add64 b_add64r b_add64l b_sub64 b_sub64r b_sub64l b_mul64 b_mul64r b_mul64l b_eql64 b_eql64r b_eql64l b_neq64 b_neq64r b_neq64l b_lss64 b_lss64r b_lss64l b_leq64 b_leq64r b_leq64l b_gtr64 b_gtr64r b_gtr64l b_geq64 b_geq64r b_geq64l b_quo64r b_rem64r b_shl64r b_shr64r b_shl64l b_shr64l u_xor64 g_eql64 g_neq64 g_eql64' g_neq64' c_u8_u8 c_u8_u32 c_u8_u64 c_i_u8 c_u32_u8 c_u32_u32 c_u32_u64 c_i_u32 c_u64_u8 c_u64_u32 c_u64_u64 c_i_u64 c_u8_i c_u32_i
attribute [local go_sem ↓] ce8 ce32 ce64
def BuildAO (t : TypeId) (parts : Array (Nat × Value)) : Sem Value := Instr.build t parts
theorem buildO35 (parts : Array (Nat × Value)) : Instr.build 35 parts = BuildAO 35 parts := rfl
theorem buildO23 (parts : Array (Nat × Value)) : Instr.build 23 parts = BuildAO 23 parts := rfl
attribute [local go_sem ↓] sliced_slp loadO25 storeO25 loadO44 storeO44 loadO35 loadO84 storeO84 buildO44 buildO25 buildO35 buildO23
theorem ne_of_ty {w : World} {a b : Nat} {C C' : Array Value} {t t' : TypeId} {fr fr' : Nat × Nat} (h : w.heap[a]? = some (.cells C t fr)) (h' : w.heap[b]? = some (.cells C' t' fr')) (ht : t ≠ t') : a ≠ b := by
  rintro rfl
  rw [h] at h'; injection h' with h'; injection h' with _ h5 _
  exact ht h5
theorem IsL.foot_base {w : World} {B g : Nat} {v : Value} {L : Lad} (h : IsL w B g v L) : ∀ x ∈ foot g v, B ≤ x := by
  intro x hx
  rcases mem_foot.1 hx with rfl | hx
  · exact h.base
  · exact h.own.row x hx
theorem IsL.foot_lt {w : World} {B g : Nat} {v : Value} {L : Lad} (h : IsL w B g v L) : ∀ x ∈ foot g v, x < w.heap.size := by
  intro x hx
  rcases mem_foot.1 hx with rfl | hx
  · exact h.lt
  · exact h.own.lt x hx
def dig5 : D32 := ⟨5 :: List.replicate 31 0, by simp⟩
def adr (n : UInt8) : A20 := ⟨n :: List.replicate 19 0, by simp⟩
theorem run_cm2 (a b : Int) (w : World) : (BuildCO 25 #[(0, .int .i64 a), (3, .int .i64 b)]).run Try.prog w = .ok (cv ⟨a, z32, z32, b⟩) w := run_build w _ _ _ (by kernel_rfl)
theorem run_adr (n : UInt8) (m : Int) (hm : m = (n.toNat : Int)) (w : World) : (BuildAO 35 #[(0, .int .u8 m)]).run Try.prog w = .ok (av (adr n)) w := by
  subst hm
  exact run_build w _ _ _ (by kernel_rfl)
def l0 : Lad := ⟨⟨4, z32, z32, 1⟩, [], 10, 0, 0⟩
def c5 : Cm := ⟨5, z32, z32, 1⟩
def p5 : Pd := ⟨1, c5, adr 7, 100, 110, 0⟩
theorem l0_ok : l0.Ok 1 := ⟨by decide, by decide, by decide, by decide, by decide, by decide, by decide, by simp [l0], by decide⟩
set_option maxRecDepth 100000 in
set_option maxHeartbeats 1000000 in
theorem awake_any (w : World) : Calls Try.prog 10 #[] w fun e w' => e = .returned (.bool true) ∧ Mod [] w w' := by
  have hB1 := fun w1 => run_cm2 4 1 w1
  have hB2 := fun w1 => run_cm2 5 1 w1
  have hB3 := fun w1 => run_adr 7 7 rfl w1
  have HN := Lib.hid (new_yes w.heap.size ⟨4, z32, z32, 1⟩ 10 w (by decide) (Nat.le_refl _))
  have hz : Try.zeroCells44.size = 90 := by kernel_rfl
  have HZ := Lib.hid hz
  clear hz
  go_enter Try.func10, Try.ntmps10
  go_wp2_with fail
  refine HN.out.mono ?_
  rintro e w1 ⟨g, rfl, hg, hL, m1⟩
  have H1 := Lib.hid hL
  have M1 := m1
  clear hL m1
  go_wp2_with fail
  have hpo := post_yes w.heap.size g _ l0 w1 H1.out 1 (by decide) l0_ok c5 (adr 7) 5 100 (by decide)
  rw [show l0.given + 1 = 1 from rfl] at hpo
  refine hpo.mono ?_
  rintro e w2 ⟨v2, rfl, hL2, m2, _⟩
  have hl1 : l0.posted c5 (adr 7) 100 = ⟨⟨4, z32, z32, 1⟩, [p5], 10, 1, 100⟩ := rfl
  rw [hl1] at hL2
  have H2 := Lib.hid hL2
  have M2 := M1.trans m2 (fun x hx => .inr (H1.out.foot_base x hx))
  have hc1 := conf_no w.heap.size g v2 _ 109 w2 hL2 (by decide) (by decide)
  rw [show (Lad.confErr ⟨⟨4, z32, z32, 1⟩, [p5], 10, 1, 100⟩ 109) = 165 from by decide] at hc1
  have HC1 := Lib.hid hc1
  clear hL2 m2 M1 hc1 hl1 hpo
  go_wp2_with fail
  refine HC1.out.mono ?_
  rintro e w3 ⟨rfl, m3⟩
  have M3 := M2.trans0 m3
  have hS3 := storeNewPd w3 Pd.zero _ HZ.out
  have H4 := Lib.hid ((H2.out.mod0 m3).mod0 ((Mod.refl [] w3).alloc (.cells Pd.zero.cells.toArray 44)))
  have M4 := M3.alloc (.cells Pd.zero.cells.toArray 44)
  clear m3 M3 M2 HC1
  have hcy := conf_yes w.heap.size g v2 _ 110 _ H4.out (by decide) p5 [] rfl (by decide)
  have HCY := Lib.hid hcy
  clear hcy
  go_wp2_with fail
  clear hS3
  refine HCY.out.mono ?_
  rintro e w5 ⟨v5, rfl, hL5, m5, _⟩
  have M5 := M4.trans m5 (fun x hx => .inr (H4.out.foot_base x hx))
  have hS5 := storeNewPd w5 p5 _ HZ.out
  have H6 := Lib.hid (hL5.mod0 ((Mod.refl [] w5).alloc (.cells p5.cells.toArray 44)))
  have HP6 := Lib.hid (hp_new w5 (.cells p5.cells.toArray 44) _ rfl)
  have M6 := M5.alloc (.cells p5.cells.toArray 44)
  clear hL5 m5 M5 M4 HCY
  have hcf := confirmed_any w.heap.size g v5 _ _ H6.out
  have HCF := Lib.hid hcf
  clear hcf
  go_wp2_with fail
  clear hS5
  refine HCF.out.mono ?_
  rintro e w7 ⟨rfl, m7⟩
  have hz25 : Try.zeroCells25.size = 66 := by kernel_rfl
  have hS7 := storeNewCm w7 c5 _ hz25
  have hx0 : (w7.alloc (.cells c5.cells.toArray 25)).cell? ⟨w7.heap.size, 0, none⟩ = some (.int .i64 5) := (box_cm w7 c5).1
  have hq0 : (w7.alloc (.cells c5.cells.toArray 25)).cell? ⟨w5.heap.size, 0, none⟩ = some (.int .i64 1) := by
    rw [cell_blk (hp_old (m7.get0 HP6.out)), List.getElem?_toArray]; exact p5.c0
  have M7 := (M6.trans0 m7).alloc (.cells c5.cells.toArray 25)
  clear m7 M6 HCF hz25 HP6
  change (StoreO _ _ (cv p5.commit)).run _ _ = _ at hS7
  go_wp2_with fail
  go_ret
  exact ⟨rfl, M7⟩
end Go.Proofs.Ytmjdfglidfdkaaa
