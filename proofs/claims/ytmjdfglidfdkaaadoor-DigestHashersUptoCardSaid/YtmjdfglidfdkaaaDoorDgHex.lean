/- Hex of the package. No condition. -/
import Derived.Test.YtmjdfglidfdkaaaDoorDgBits
import Derived.Test.YtmjdfglidfdkaaaDoorShelf
namespace Go.Proofs.YtmjdfglidfdkaaaDoor
open Go.RowKit
attribute [local go_sem high] one8 st8 cm8 b_and8 b_and8r b_and8l b_or8 b_or8r b_or8l b_xor8 b_xor8r b_xor8l b_andNot8 b_andNot8r b_andNot8l b_add8 b_add8r b_add8l b_sub8 b_sub8r b_sub8l b_mul8 b_mul8r b_mul8l b_eql8 b_eql8r b_eql8l b_neq8 b_neq8r b_neq8l b_lss8 b_lss8r b_lss8l b_leq8 b_leq8r b_leq8l b_gtr8 b_gtr8r b_gtr8l b_geq8 b_geq8r b_geq8l b_quo8r b_rem8r b_shl8r b_shr8r b_shl8l b_shr8l u_xor8 g_eql8 g_neq8 g_eql8' g_neq8' one32 st32 cm32 b_and32 b_and32r b_and32l b_or32 b_or32r b_or32l b_xor32 b_xor32r b_xor32l b_andNot32 b_andNot32r b_andNot32l b_add32 b_add32r b_add32l b_sub32 b_sub32r b_sub32l b_mul32 b_mul32r b_mul32l b_eql32 b_eql32r b_eql32l b_neq32 b_neq32r b_neq32l b_lss32 b_lss32r b_lss32l b_leq32 b_leq32r b_leq32l b_gtr32 b_gtr32r b_gtr32l b_geq32 b_geq32r b_geq32l b_quo32r b_rem32r b_shl32r b_shr32r b_shl32l b_shr32l u_xor32 g_eql32 g_neq32 g_eql32' g_neq32' one64 st64 cm64 b_and64 b_and64r b_and64l b_or64 b_or64r b_or64l b_xor64 b_xor64r b_xor64l b_andNot64 b_andNot64r b_andNot64l b_add64 b_add64r b_add64l b_sub64 b_sub64r b_sub64l b_mul64 b_mul64r b_mul64l b_eql64 b_eql64r b_eql64l b_neq64 b_neq64r b_neq64l b_lss64 b_lss64r b_lss64l b_leq64 b_leq64r b_leq64l b_gtr64 b_gtr64r b_gtr64l b_geq64 b_geq64r b_geq64l b_quo64r b_rem64r b_shl64r b_shr64r b_shl64l b_shr64l u_xor64 g_eql64 g_neq64 g_eql64' g_neq64' c_u8_u8 c_u8_u32 c_u8_u64 c_i_u8 c_u32_u8 c_u32_u32 c_u32_u64 c_i_u32 c_u64_u8 c_u64_u32 c_u64_u64 c_i_u64 c_u8_i c_u32_i
attribute [local go_sem ↓] ce8 ce32 ce64
attribute [local go_sem ↓] sliced_slp loadO62 loadO64 storeO62 storeO64 loadO26 storeO26 loadO66 storeO66
def digitsOf : List UInt8 := [48, 49, 50, 51, 52, 53, 54, 55, 56, 57, 97, 98, 99, 100, 101, 102]
def dg (y : UInt8) : UInt8 := digitsOf.getD y.toNat 0
def hexByte (x : UInt8) : List UInt8 := [dg (x >>> 4), dg (x &&& 15)]
def hexOf (d : List UInt8) : List UInt8 := d.flatMap hexByte
theorem hexOf_length (d : List UInt8) : (hexOf d).length = 2 * d.length := by
  induction d with
  | nil => rfl
  | cons x d ih => simp only [hexOf, List.flatMap_cons, List.length_append] at *; rw [ih]; simp [hexByte]; omega
theorem hexOf_take_succ (d : List UInt8) (k : Nat) (x : UInt8) (h : d[k]? = some x) : hexOf (d.take (k + 1)) = hexOf (d.take k) ++ hexByte x := by
  rw [List.take_add_one, h]; simp [hexOf]
theorem index_d26 (w : World) (d : List UInt8) (k : Nat) (x : UInt8) (hd : d.length = 32) (hx : d[k]? = some x) :
    (Instr.index 26 (.agg (d.map V8).toArray) (.int .i64 k)).run Tryd.prog w = .ok (V8 x) w := by
  have hk : k < 32 := by rw [← hd]; exact (List.getElem?_eq_some_iff.1 hx).1
  have e : (d.map V8).toArray[k]? = some (V8 x) := by simp [hx]
  simp [Instr.index, asIntOf, run_underlying Tryd.underlying26, hk, Go.part, Tryd.isAgg5, Tryd.sizeOf5, Sem.run_bind, hx]
def digitsB : ByteArray := ⟨#[48, 49, 50, 51, 52, 53, 54, 55, 56, 57, 97, 98, 99, 100, 101, 102]⟩
theorem digitsB_get (j : Nat) (h : j < 16) : digitsB[j]? = some (digitsOf.getD j 0) := by
  revert h; revert j; decide
theorem index_dig (w : World) (y : UInt8) (h : y.toNat < 16) :
    (Instr.index 9 (.string ⟨#[48, 49, 50, 51, 52, 53, 54, 55, 56, 57, 97, 98, 99, 100, 101, 102]⟩) (V8 y)).run Tryd.prog w = .ok (V8 (dg y)) w := by
  unfold dg
  change (Instr.index 9 (.string digitsB) (V8 y)).run Tryd.prog w = _
  simp only [Instr.index, V8, asIntOf, Sem.run_bind, run_underlying Tryd.underlying9, Sem.run_pure]
  simp [digitsB_get _ h]
theorem hi4 (x : UInt8) : (x >>> 4).toNat < 16 := by
  have := x.toNat_lt
  rw [UInt8.toNat_shiftRight]
  simp [Nat.shiftRight_eq_div_pow]; omega
theorem lo4 (x : UInt8) : (x &&& 15).toNat < 16 := by
  rw [UInt8.toNat_and]; exact Nat.and_lt_two_pow _ (n := 4) (by decide)
theorem writeByte8 (B b : Nat) (l : List UInt8) (y : UInt8) (w : World) (h : Lib.IsBuilder 71 5 B b (Lib.byteCells l) w) (hlen : l.length + 1 ≤ 140737488355328) (hBw : B ≤ w.heap.size) :
    Calls Tryd.prog 41 #[.pointer (some ⟨b, 0, none⟩), V8 y] w fun e w' => e = .returned .nilIface ∧ (Lib.IsBuilder 71 5 B b (Lib.byteCells (l ++ [y])) w' ∧ Below B w w') := by
  refine (writeByte_any B b _ _ w h (by simpa [Lib.byteCells] using hlen) hBw).mono ?_
  rintro e w' ⟨rfl, hb, hm⟩
  exact ⟨rfl, .inr (by simpa [Lib.byteCells] using hb), hm⟩
theorem hex_any (d : List UInt8) (w : World) (hd : d.length = 32) :
    Calls Tryd.prog 33 #[dv d] w fun e w' => e = .returned (.string ⟨(hexOf d).toArray⟩) ∧ Mod [] w w' := by
  unfold dv
  have hL := fun (X : Obj) => loadO_row (P := Tryd.prog) (ty := 26) (hp_old (o := X) (hp_new w (.cells (d.map V8).toArray 26) _ rfl)) Tryd.underlying26 rfl (by simpa [hd] using info26)
  have hL := hL (Obj.cells #[Value.pointer none, Value.slice none 0 0] 71)
  go_enter Tryd.func33, Tryd.ntmps33
  go_wp2_with fail
  go_loopw [7] (fun v wr => ∃ k : Nat, k ≤ 32 ∧ v = .int .i64 k ∧ Lib.IsBuilder 71 5 (w.heap.size + 1) (w.heap.size + 1) (Lib.byteCells (hexOf (d.take k))) wr ∧ Mod [] w wr ∧ w.heap.size + 1 ≤ wr.heap.size) (fun v _ => 32 - (intOf v).toNat)
  case atStart => exact ⟨0, by omega, rfl, by have h := Lib.fresh_isBuilder 71 5 (w.alloc (.cells (d.map V8).toArray 26)); simp at h; exact h, (Mod.refl [] w).alloc _ |>.alloc _, by simp⟩
  case round =>
    obtain ⟨k, hk, rfl, hb, hm, hs⟩ := hrel
    by_cases hlt : k < 32
    · have hxk : d[k]? = some (d.getD k 0) := by simp [List.getElem?_eq_getElem (show k < d.length by omega)]
      generalize hx : d.getD k 0 = x at hxk
      have i1 := index_d26 wr d k x hd hxk
      have i2 := index_dig wr (x >>> 4) (hi4 x)
      have hl : (hexOf (d.take k)).length ≤ 64 := by rw [hexOf_length]; simp; omega
      have H := Lib.hid hb
      have HX := Lib.hid hxk
      clear hb hxk hx hL
      go_wp2_with (first
        | (go_at_call 41; refine (writeByte8 _ _ _ (dg (x >>> 4)) _ H.out (by omega) hs).mono ?_; rintro e w5 ⟨rfl, hb5, hm5⟩; have H5 := Lib.hid hb5; clear hb5 H; have i3 := index_dig w5 (x &&& 15) (lo4 x))
        | (go_at_call 41; refine (writeByte8 _ _ _ (dg (x &&& 15)) _ H5.out (by simp; omega) (Nat.le_trans hs hm5.size)).mono ?_; rintro e w7 ⟨rfl, hb7, hm7⟩))
      go_roundw
      case rel =>
        have hB := hm5.trans hm7
        refine ⟨k + 1, by omega, by go_num, ?_, ⟨hB.os.trans hm.os, hB.tape.trans hm.tape, hB.output.trans hm.output, Nat.le_trans hm.size hB.size, fun j hj hn => (hB.block j (by omega)).trans (hm.block j hj hn)⟩, Nat.le_trans hs hB.size⟩
        rw [hexOf_take_succ d k x HX.out]; simpa [hexByte] using hb7
      case measure => simp [intOf]; omega
    · have hkk : k = 32 := by omega
      have hd2 : decide ((k : Int) < 32) = false := by simp; omega
      have HK := Lib.hid hkk
      have H := Lib.hid hb
      clear hkk hb hL
      go_wp2_with (go_at_call 42; refine (builder_string_any _ _ _ _ H.out hs).mono ?_; rintro e w5 ⟨rfl, hm5⟩)
      go_ret
      rw [HK.out, List.take_of_length_le (by omega)]
      exact ⟨rfl, ⟨hm5.os.trans hm.os, hm5.tape.trans hm.tape, hm5.output.trans hm.output, Nat.le_trans hm.size hm5.size, fun j hj hn => (hm5.block j (by omega)).trans (hm.block j hj hn)⟩⟩
end Go.Proofs.YtmjdfglidfdkaaaDoor
