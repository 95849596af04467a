/- Byte, Flag, Done of the document's writer. Condition: at most 2^22 bytes are laid. -/
import Derived.Test.YtmdgefiojapogaaDoorDwLay
namespace Go.Proofs.YtmdgefiojapogaaDoor
open Go.RowKit
attribute [local go_sem high] one8 st8 cm8 b_and8 b_and8r b_and8l b_or8 b_or8r b_or8l b_xor8 b_xor8r b_xor8l b_andNot8 b_andNot8r b_andNot8l b_add8 b_add8r b_add8l b_sub8 b_sub8r b_sub8l b_mul8 b_mul8r b_mul8l b_eql8 b_eql8r b_eql8l b_neq8 b_neq8r b_neq8l b_lss8 b_lss8r b_lss8l b_leq8 b_leq8r b_leq8l b_gtr8 b_gtr8r b_gtr8l b_geq8 b_geq8r b_geq8l b_quo8r b_rem8r b_shl8r b_shr8r b_shl8l b_shr8l u_xor8 g_eql8 g_neq8 g_eql8' g_neq8' one32 st32 cm32 b_and32 b_and32r b_and32l b_or32 b_or32r b_or32l b_xor32 b_xor32r b_xor32l b_andNot32 b_andNot32r b_andNot32l b_add32 b_add32r b_add32l b_sub32 b_sub32r b_sub32l b_mul32 b_mul32r b_mul32l b_eql32 b_eql32r b_eql32l b_neq32 b_neq32r b_neq32l b_lss32 b_lss32r b_lss32l b_leq32 b_leq32r b_leq32l b_gtr32 b_gtr32r b_gtr32l b_geq32 b_geq32r b_geq32l b_quo32r b_rem32r b_shl32r b_shr32r b_shl32l b_shr32l u_xor32 g_eql32 g_neq32 g_eql32' g_neq32' one64 st64 cm64 b_and64 b_and64r b_and64l b_or64 b_or64r b_or64l b_xor64 b_xor64r b_xor64l b_andNot64 b_andNot64r b_andNot64l b_add64 b_add64r b_add64l b_sub64 b_sub64r b_sub64l b_mul64 b_mul64r b_mul64l b_eql64 b_eql64r b_eql64l b_neq64 b_neq64r b_neq64l b_lss64 b_lss64r b_lss64l b_leq64 b_leq64r b_leq64l b_gtr64 b_gtr64r b_gtr64l b_geq64 b_geq64r b_geq64l b_quo64r b_rem64r b_shl64r b_shr64r b_shl64l b_shr64l u_xor64 g_eql64 g_neq64 g_eql64' g_neq64' c_u8_u8 c_u8_u32 c_u8_u64 c_i_u8 c_u32_u8 c_u32_u32 c_u32_u64 c_i_u32 c_u64_u8 c_u64_u32 c_u64_u64 c_i_u64 c_u8_i c_u32_i
attribute [local go_sem ↓] ce8 ce32 ce64
attribute [local go_sem ↓] sliced_slp
theorem DwPost.from {B g : Nat} {v : Value} {W : Wr} {r : Value} {w w1 w' : World} {e : Ending} (hm : Mod [] w w1) (h : DwPost B g v W r w1 e w') : DwPost B g v W r w e w' := by
  obtain ⟨v', he, hi, hm2, ho⟩ := h
  exact ⟨v', he, hi, (hm.mono (by simp)).trans hm2 (fun x hx => .inl hx), fun x hx => (ho x hx).imp id (fun h => Nat.le_trans hm.size h)⟩
theorem DwPost.unit {B g : Nat} {v : Value} {W : Wr} {r : Value} {w w' : World} {e : Ending} (h : DwPost B g v W r w e w') : e = .returned r := by
  obtain ⟨_, he, _⟩ := h; exact he
theorem dbyte_any (B g : Nat) (v : Value) (W : Wr) (w : World) (h : IsV w B g v W) (hk : W.b.length ≤ 4194304) (x : UInt8) :
    Calls Tryd.prog 77 #[.pointer (some ⟨g, 0, none⟩), V8 x] w (DwPost B g v (W.lay [x]) (.tuple #[]) w) := by
  have hm : Mod [] w (w.alloc (.cells #[V8 x] 5)) := (Mod.refl [] w).alloc _
  have hr : Rd V8 (w.alloc (.cells #[V8 x] 5)) (some ⟨w.heap.size, 0, none⟩) 1 [x] := Rd.of_blk (hp_new w (.cells #[V8 x] 5) _ rfl) (fun j v hv => by simpa using hv) (by simp)
  have HL := Lib.hid (dlay_any B g v W _ (h.mod0 hm) hk (some ⟨w.heap.size, 0, none⟩) 1 [x] hr (by simp))
  have HM := Lib.hid hm
  clear h hm hr
  go_enter Tryd.func77, Tryd.ntmps77
  go_wp2_with fail
  refine HL.out.mono ?_
  intro e w9 hp
  have hp2 := DwPost.from HM.out hp
  have he := hp.unit
  subst he
  have HP := Lib.hid hp2
  clear hp hp2
  go_wp2_with fail
  go_end0
  exact HP.out
end Go.Proofs.YtmdgefiojapogaaDoor
