/- The document's writer in memory. No condition. -/
import Derived.Test.YtmdgefiojapogaaDoorWrMem
namespace Go.Proofs.YtmdgefiojapogaaDoor
open Go.RowKit
attribute [local go_sem high] one8 st8 cm8 b_and8 b_and8r b_and8l b_or8 b_or8r b_or8l b_xor8 b_xor8r b_xor8l b_andNot8 b_andNot8r b_andNot8l b_add8 b_add8r b_add8l b_sub8 b_sub8r b_sub8l b_mul8 b_mul8r b_mul8l b_eql8 b_eql8r b_eql8l b_neq8 b_neq8r b_neq8l b_lss8 b_lss8r b_lss8l b_leq8 b_leq8r b_leq8l b_gtr8 b_gtr8r b_gtr8l b_geq8 b_geq8r b_geq8l b_quo8r b_rem8r b_shl8r b_shr8r b_shl8l b_shr8l u_xor8 g_eql8 g_neq8 g_eql8' g_neq8' one32 st32 cm32 b_and32 b_and32r b_and32l b_or32 b_or32r b_or32l b_xor32 b_xor32r b_xor32l b_andNot32 b_andNot32r b_andNot32l b_add32 b_add32r b_add32l b_sub32 b_sub32r b_sub32l b_mul32 b_mul32r b_mul32l b_eql32 b_eql32r b_eql32l b_neq32 b_neq32r b_neq32l b_lss32 b_lss32r b_lss32l b_leq32 b_leq32r b_leq32l b_gtr32 b_gtr32r b_gtr32l b_geq32 b_geq32r b_geq32l b_quo32r b_rem32r b_shl32r b_shr32r b_shl32l b_shr32l u_xor32 g_eql32 g_neq32 g_eql32' g_neq32' one64 st64 cm64 b_and64 b_and64r b_and64l b_or64 b_or64r b_or64l b_xor64 b_xor64r b_xor64l b_andNot64 b_andNot64r b_andNot64l b_add64 b_add64r b_add64l b_sub64 b_sub64r b_sub64l b_mul64 b_mul64r b_mul64l b_eql64 b_eql64r b_eql64l b_neq64 b_neq64r b_neq64l b_lss64 b_lss64r b_lss64l b_leq64 b_leq64r b_leq64l b_gtr64 b_gtr64r b_gtr64l b_geq64 b_geq64r b_geq64l b_quo64r b_rem64r b_shl64r b_shr64r b_shl64l b_shr64l u_xor64 g_eql64 g_neq64 g_eql64' g_neq64' c_u8_u8 c_u8_u32 c_u8_u64 c_i_u8 c_u32_u8 c_u32_u32 c_u32_u64 c_i_u32 c_u64_u8 c_u64_u32 c_u64_u64 c_i_u64 c_u8_i c_u32_i
attribute [local go_sem ↓] ce8 ce32 ce64
attribute [local go_sem ↓] sliced_slp
/-- The document's writer W lies in block g; v: its bytes. -/
structure IsV (w : World) (B g : Nat) (v : Value) (W : Wr) : Prop where
  base : B ≤ g
  blk : w.heap[g]? = some (.cells #[v, .int .i64 W.e] 136 (0, 0))
  own : Own w B v W.b
namespace IsV
variable {a w : World} {B g : Nat} {v : Value} {W : Wr}
theorem lt (h : IsV w B g v W) : g < w.heap.size := lt_of_block h.blk
theorem c0 (h : IsV w B g v W) : w.cell? ⟨g, 0, none⟩ = some v := by rw [cell_blk h.blk]; rfl
theorem c1 (h : IsV w B g v W) : w.cell? ⟨g, 1, none⟩ = some (.int .i64 W.e) := by rw [cell_blk h.blk]; rfl
theorem frz (h : IsV w B g v W) (j : Nat) : w.frozen? ⟨g, j, none⟩ = false := frozen_blk h.blk j
theorem mod {S : List Nat} (h : IsV a B g v W) (hm : Mod S a w) (hg : g ∉ S) (hs : ∀ x ∈ S, v.ownBlock ≠ some x) : IsV w B g v W := ⟨h.base, hm.get h.blk hg, h.own.mod hm hs⟩
theorem mod0 (h : IsV a B g v W) (hm : Mod [] a w) : IsV w B g v W := h.mod hm (by simp) (by simp)
theorem ne (h : IsV w B g v W) : v.ownBlock ≠ some g := by
  intro hv
  obtain ⟨C, hb⟩ := h.own.type g hv
  have := h.blk
  rw [hb] at this; injection this with this; injection this with _ h2 _
  exact absurd h2 (by decide)
/-- Its fault is written. -/
theorem setE (h : IsV w B g v W) (e : Int) : IsV (w.setCell ⟨g, 1, none⟩ (.int .i64 e)) B g v { W with e := e } := by
  refine ⟨h.base, by rw [hp_sc h.blk]; rfl, h.own.mod ((Mod.refl [g] w).setCell (.inl (by simp)) _) (fun x hx hv => ?_)⟩
  rw [List.mem_singleton] at hx
  subst hx
  exact h.ne hv
/-- Its bytes are written. -/
theorem setB {v' : Value} {b : List UInt8} (h : IsV w B g v W) (ho : Own w B v' b) (hn : v'.ownBlock ≠ some g) : IsV (w.setCell ⟨g, 0, none⟩ v') B g v' { W with b := b } := by
  refine ⟨h.base, by rw [hp_sc h.blk]; rfl, ho.mod ((Mod.refl [g] w).setCell (.inl (by simp)) _) (fun x hx hv => ?_)⟩
  rw [List.mem_singleton] at hx
  subst hx
  exact hn hv
end IsV
theorem IsV.foot_base {w : World} {B g : Nat} {v : Value} {W : Wr} (h : IsV w B g v W) : ∀ x ∈ footB g v, B ≤ x := by
  intro x hx
  rcases mem_footB.1 hx with rfl | hx
  · exact h.base
  · exact h.own.row x hx
theorem IsV.foot_lt {w : World} {B g : Nat} {v : Value} {W : Wr} (h : IsV w B g v W) : ∀ x ∈ footB g v, x < w.heap.size := by
  intro x hx
  rcases mem_footB.1 hx with rfl | hx
  · exact h.lt
  · exact h.own.lt x hx
/-- What stands behind a call that turns a writer. -/
def DwPost (B g : Nat) (v : Value) (W : Wr) (r : Value) (w : World) (e : Ending) (w' : World) : Prop :=
  ∃ v', e = .returned r ∧ IsV w' B g v' W ∧ Mod (footB g v) w w' ∧ ∀ x, v'.ownBlock = some x → v.ownBlock = some x ∨ w.heap.size ≤ x
end Go.Proofs.YtmdgefiojapogaaDoor
