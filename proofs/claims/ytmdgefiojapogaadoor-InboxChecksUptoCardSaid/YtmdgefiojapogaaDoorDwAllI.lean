/- Byte, Flag, Done of the document's writer. Condition: at most 2^22 bytes are laid. -/
import Derived.Test.YtmdgefiojapogaaDoorDwLay
import Derived.Test.YtmdgefiojapogaaDoorZeros
import Derived.Test.YtmdgefiojapogaaDoorInEq
import Derived.Test.YtmdgefiojapogaaDoorWrMoreI
import Derived.Test.YtmdgefiojapogaaDoorMakeCopy
namespace Go.Proofs.YtmdgefiojapogaaDoor
open Go.RowKit
attribute [local go_sem high] one8 st8 cm8 b_and8 b_and8r b_and8l b_or8 b_or8r b_or8l b_xor8 b_xor8r b_xor8l b_andNot8 b_andNot8r b_andNot8l b_add8 b_add8r b_add8l b_sub8 b_sub8r b_sub8l b_mul8 b_mul8r b_mul8l b_eql8 b_eql8r b_eql8l b_neq8 b_neq8r b_neq8l b_lss8 b_lss8r b_lss8l b_leq8 b_leq8r b_leq8l b_gtr8 b_gtr8r b_gtr8l b_geq8 b_geq8r b_geq8l b_quo8r b_rem8r b_shl8r b_shr8r b_shl8l b_shr8l u_xor8 g_eql8 g_neq8 g_eql8' g_neq8' one32 st32 cm32 b_and32 b_and32r b_and32l b_or32 b_or32r b_or32l b_xor32 b_xor32r b_xor32l b_andNot32 b_andNot32r b_andNot32l b_add32 b_add32r b_add32l b_sub32 b_sub32r b_sub32l b_mul32 b_mul32r b_mul32l b_eql32 b_eql32r b_eql32l b_neq32 b_neq32r b_neq32l b_lss32 b_lss32r b_lss32l b_leq32 b_leq32r b_leq32l b_gtr32 b_gtr32r b_gtr32l b_geq32 b_geq32r b_geq32l b_quo32r b_rem32r b_shl32r b_shr32r b_shl32l b_shr32l u_xor32 g_eql32 g_neq32 g_eql32' g_neq32' one64 st64 cm64 b_and64 b_and64r b_and64l b_or64 b_or64r b_or64l b_xor64 b_xor64r b_xor64l b_andNot64 b_andNot64r b_andNot64l b_add64 b_add64r b_add64l b_sub64 b_sub64r b_sub64l b_mul64 b_mul64r b_mul64l b_eql64 b_eql64r b_eql64l b_neq64 b_neq64r b_neq64l b_lss64 b_lss64r b_lss64l b_leq64 b_leq64r b_leq64l b_gtr64 b_gtr64r b_gtr64l b_geq64 b_geq64r b_geq64l b_quo64r b_rem64r b_shl64r b_shr64r b_shl64l b_shr64l u_xor64 g_eql64 g_neq64 g_eql64' g_neq64' c_u8_u8 c_u8_u32 c_u8_u64 c_i_u8 c_u32_u8 c_u32_u32 c_u32_u64 c_i_u32 c_u64_u8 c_u64_u32 c_u64_u64 c_i_u64 c_u8_i c_u32_i
attribute [local go_sem ↓] ce8 ce32 ce64
attribute [local go_sem ↓] sliced_slp
theorem DwPost.from {B g : Nat} {v : Value} {W : Wr} {r : Value} {w w1 w' : World} {e : Ending} (hm : Mod [] w w1) (h : DwPost B g v W r w1 e w') : DwPost B g v W r w e w' := by
  obtain ⟨v', he, hi, hm2, ho⟩ := h
  exact ⟨v', he, hi, (hm.mono (by simp)).trans hm2 (fun x hx => .inl hx), fun x hx => (ho x hx).imp id (fun h => Nat.le_trans hm.size h)⟩
theorem DwPost.unit {B g : Nat} {v : Value} {W : Wr} {r : Value} {w w' : World} {e : Ending} (h : DwPost B g v W r w e w') : e = .returned r := by
  obtain ⟨_, he, _⟩ := h; exact he
theorem dbyte_any (B g : Nat) (v : Value) (W : Wr) (w : World) (h : IsV w B g v W) (hk : W.b.length ≤ 4194304) (x : UInt8) :
    Calls Tryd.prog 77 #[.pointer (some ⟨g, 0, none⟩), V8 x] w (DwPost B g v (W.lay [x]) (.tuple #[]) w) := by
  have hm : Mod [] w (w.alloc (.cells #[V8 x] 5)) := (Mod.refl [] w).alloc _
  have hr : Rd V8 (w.alloc (.cells #[V8 x] 5)) (some ⟨w.heap.size, 0, none⟩) 1 [x] := Rd.of_blk (hp_new w (.cells #[V8 x] 5) _ rfl) (fun j v hv => by simpa using hv) (by simp)
  have HL := Lib.hid (dlay_any B g v W _ (h.mod0 hm) hk (some ⟨w.heap.size, 0, none⟩) 1 [x] hr (by simp))
  have HM := Lib.hid hm
  clear h hm hr
  go_enter Tryd.func77, Tryd.ntmps77
  go_wp2_with fail
  refine HL.out.mono ?_
  intro e w9 hp
  have hp2 := DwPost.from HM.out hp
  have he := hp.unit
  subst he
  have HP := Lib.hid hp2
  clear hp hp2
  go_wp2_with fail
  go_end0
  exact HP.out
end Go.Proofs.YtmdgefiojapogaaDoor
namespace Go.Proofs.YtmdgefiojapogaaDoor
open Go.RowKit
attribute [local go_sem high] one8 st8 cm8 b_and8 b_and8r b_and8l b_or8 b_or8r b_or8l b_xor8 b_xor8r b_xor8l b_andNot8 b_andNot8r b_andNot8l b_add8 b_add8r b_add8l b_sub8 b_sub8r b_sub8l b_mul8 b_mul8r b_mul8l b_eql8 b_eql8r b_eql8l b_neq8 b_neq8r b_neq8l b_lss8 b_lss8r b_lss8l b_leq8 b_leq8r b_leq8l b_gtr8 b_gtr8r b_gtr8l b_geq8 b_geq8r b_geq8l b_quo8r b_rem8r b_shl8r b_shr8r b_shl8l b_shr8l u_xor8 g_eql8 g_neq8 g_eql8' g_neq8' one32 st32 cm32 b_and32 b_and32r b_and32l b_or32 b_or32r b_or32l b_xor32 b_xor32r b_xor32l b_andNot32 b_andNot32r b_andNot32l b_add32 b_add32r b_add32l b_sub32 b_sub32r b_sub32l b_mul32 b_mul32r b_mul32l b_eql32 b_eql32r b_eql32l b_neq32 b_neq32r b_neq32l b_lss32 b_lss32r b_lss32l b_leq32 b_leq32r b_leq32l b_gtr32 b_gtr32r b_gtr32l b_geq32 b_geq32r b_geq32l b_quo32r b_rem32r b_shl32r b_shr32r b_shl32l b_shr32l u_xor32 g_eql32 g_neq32 g_eql32' g_neq32' one64 st64 cm64 b_and64 b_and64r b_and64l b_or64 b_or64r b_or64l b_xor64 b_xor64r b_xor64l b_andNot64 b_andNot64r b_andNot64l b_add64 b_add64r b_add64l b_sub64 b_sub64r b_sub64l b_mul64 b_mul64r b_mul64l b_eql64 b_eql64r b_eql64l b_neq64 b_neq64r b_neq64l b_lss64 b_lss64r b_lss64l b_leq64 b_leq64r b_leq64l b_gtr64 b_gtr64r b_gtr64l b_geq64 b_geq64r b_geq64l b_quo64r b_rem64r b_shl64r b_shr64r b_shl64l b_shr64l u_xor64 g_eql64 g_neq64 g_eql64' g_neq64' c_u8_u8 c_u8_u32 c_u8_u64 c_i_u8 c_u32_u8 c_u32_u32 c_u32_u64 c_i_u32 c_u64_u8 c_u64_u32 c_u64_u64 c_i_u64 c_u8_i c_u32_i
attribute [local go_sem ↓] ce8 ce32 ce64
attribute [local go_sem ↓] sliced_slp
theorem bare_at (l : List UInt8) (i : Nat) (x : UInt8) (h : l[i]? = some x) (hb : bare (l.drop i) = bare l) : (x ≠ 0 → bare l = l.drop i) ∧ (x = 0 → bare (l.drop (i + 1)) = bare l) := by
  have hi := (List.getElem?_eq_some_iff.1 h).1
  have e : l.drop i = x :: l.drop (i + 1) := by
    rw [List.drop_eq_getElem_cons hi, (List.getElem?_eq_some_iff.1 h).2]
  rw [e] at hb ⊢
  constructor
  · intro hx; rw [← hb, bare, if_neg hx]
  · intro hx; rw [← hb, bare, if_pos hx]
theorem dbare_any (p : Option Addr) (cap : Nat) (l : List UInt8) (w : World) (hr : Rd V8 w p cap l) (hl : l.length ≤ 1048576) :
    Calls Tryd.prog 90 #[.slice p l.length cap] w fun e w' => ∃ q c, e = .returned (.slice q (bare l).length c) ∧ Rd V8 w q c (bare l) ∧ w' = w := by
  have HR := Lib.hid hr
  have hcap := hr.le
  clear hr
  go_enter Tryd.func90, Tryd.ntmps90
  go_wp2_with fail
  go_loopw [3] (fun iv wr => ∃ i : Nat, i ≤ l.length ∧ iv = .int .i64 i ∧ bare (l.drop i) = bare l ∧ wr = w) (fun iv _ => l.length - (intOf iv).toNat)
  case atStart => exact ⟨0, by omega, rfl, rfl, rfl⟩
  case round =>
    obtain ⟨i, hi, rfl, hb, hw⟩ := hrel
    have hw' := hw.symm
    clear hw
    subst hw'
    by_cases hlt : i < l.length
    · obtain ⟨x, hx⟩ : ∃ x, l[i]? = some x := ⟨l[i], List.getElem?_eq_getElem hlt⟩
      obtain ⟨h1, h2⟩ := bare_at l i x hx hb
      obtain ⟨b, o, rfl, hc⟩ := HR.out.cell i x hx
      have H1 := Lib.hid h1
      have H2 := Lib.hid h2
      have hic : i ≤ cap := by omega
      clear hx h1 h2 hb
      by_cases hx0 : x = 0
      · have dx : (x != 0) = false := by simp [hx0]
        have HX := Lib.hid hx0
        clear hx0
        go_wp2_with fail
        go_roundw
        case rel => exact ⟨i + 1, by omega, by go_num, H2.out HX.out, trivial⟩
        case measure => simp [intOf]; omega
      · have dx : (x != 0) = true := by simpa using hx0
        have HX := Lib.hid hx0
        clear hx0
        go_wp2_with fail
        go_ret
        have hrd := HR.out.drop i (by omega)
        rw [H1.out HX.out]
        exact ⟨_, _, by rw [List.length_drop]; rfl, hrd, rfl⟩
    · have hnl : ¬ (i < l.length) := hlt
      have hz : bare l = [] := by rw [← hb, List.drop_of_length_le (by omega)]; rfl
      have HZ := Lib.hid hz
      clear hz hb
      go_wp2_with fail
      go_ret
      exact ⟨none, 0, by rw [HZ.out]; rfl, by rw [HZ.out]; exact Rd.nil _ _ _ _, rfl⟩
end Go.Proofs.YtmdgefiojapogaaDoor
namespace Go.Proofs.YtmdgefiojapogaaDoor
open Go.RowKit
attribute [local go_sem high] one8 st8 cm8 b_and8 b_and8r b_and8l b_or8 b_or8r b_or8l b_xor8 b_xor8r b_xor8l b_andNot8 b_andNot8r b_andNot8l b_add8 b_add8r b_add8l b_sub8 b_sub8r b_sub8l b_mul8 b_mul8r b_mul8l b_eql8 b_eql8r b_eql8l b_neq8 b_neq8r b_neq8l b_lss8 b_lss8r b_lss8l b_leq8 b_leq8r b_leq8l b_gtr8 b_gtr8r b_gtr8l b_geq8 b_geq8r b_geq8l b_quo8r b_rem8r b_shl8r b_shr8r b_shl8l b_shr8l u_xor8 g_eql8 g_neq8 g_eql8' g_neq8' one32 st32 cm32 b_and32 b_and32r b_and32l b_or32 b_or32r b_or32l b_xor32 b_xor32r b_xor32l b_andNot32 b_andNot32r b_andNot32l b_add32 b_add32r b_add32l b_sub32 b_sub32r b_sub32l b_mul32 b_mul32r b_mul32l b_eql32 b_eql32r b_eql32l b_neq32 b_neq32r b_neq32l b_lss32 b_lss32r b_lss32l b_leq32 b_leq32r b_leq32l b_gtr32 b_gtr32r b_gtr32l b_geq32 b_geq32r b_geq32l b_quo32r b_rem32r b_shl32r b_shr32r b_shl32l b_shr32l u_xor32 g_eql32 g_neq32 g_eql32' g_neq32' one64 st64 cm64 b_and64 b_and64r b_and64l b_or64 b_or64r b_or64l b_xor64 b_xor64r b_xor64l b_andNot64 b_andNot64r b_andNot64l b_add64 b_add64r b_add64l b_sub64 b_sub64r b_sub64l b_mul64 b_mul64r b_mul64l b_eql64 b_eql64r b_eql64l b_neq64 b_neq64r b_neq64l b_lss64 b_lss64r b_lss64l b_leq64 b_leq64r b_leq64l b_gtr64 b_gtr64r b_gtr64l b_geq64 b_geq64r b_geq64l b_quo64r b_rem64r b_shl64r b_shr64r b_shl64l b_shr64l u_xor64 g_eql64 g_neq64 g_eql64' g_neq64' c_u8_u8 c_u8_u32 c_u8_u64 c_i_u8 c_u32_u8 c_u32_u32 c_u32_u64 c_i_u32 c_u64_u8 c_u64_u32 c_u64_u64 c_i_u64 c_u8_i c_u32_i
attribute [local go_sem ↓] ce8 ce32 ce64
attribute [local go_sem ↓] sliced_slp
/-- The last j bytes of a number, noughts ahead. -/
def lastB (n j : Nat) : List UInt8 := (zeros 8).take (8 - j) ++ (be8 n).drop (8 - j)
theorem lastB_len (n j : Nat) : (lastB n j).length = 8 := by simp only [lastB, List.length_append, List.length_take, List.length_drop, zeros_length, be8_length]; omega
theorem be8_get (n j : Nat) (hj : j < 8) : (be8 n)[7 - j]? = some (UInt8.ofNat (n / 256 ^ j)) := by
  unfold be8
  rw [List.getElem?_map, List.getElem?_range (by omega), Option.map_some, Nat.shiftRight_eq_div_pow, show 56 - 8 * (7 - j) = 8 * j by omega, Nat.pow_mul]
theorem lastB_succ (n j : Nat) (hj : j < 8) : (lastB n j).set (7 - j) (UInt8.ofNat (n / 256 ^ j)) = lastB n (j + 1) := by
  have hg := be8_get n j hj
  refine List.ext_getElem? fun i => ?_
  unfold lastB
  have hz : ((zeros 8).take (8 - j)).length = 8 - j := by rw [List.length_take, zeros_length]; omega
  have hz2 : ((zeros 8).take (8 - (j + 1))).length = 8 - (j + 1) := by rw [List.length_take, zeros_length]; omega
  rw [List.getElem?_set]
  by_cases h1 : 7 - j = i
  · subst h1
    rw [if_pos rfl, if_pos (by rw [List.length_append, hz, List.length_drop, be8_length]; omega), List.getElem?_append_right (by omega), hz2, List.getElem?_drop, show 8 - (j + 1) + (7 - j - (8 - (j + 1))) = 7 - j by omega, hg]
  · rw [if_neg h1]
    by_cases h2 : i < 7 - j
    · rw [List.getElem?_append_left (by omega), List.getElem?_append_left (by omega), List.getElem?_take, List.getElem?_take, if_pos (by omega), if_pos (by omega)]
    · rw [List.getElem?_append_right (by omega), List.getElem?_append_right (by omega), hz, hz2, List.getElem?_drop, List.getElem?_drop]
      congr 1; omega
theorem lastB_0 (n : Nat) : lastB n 0 = zeros 8 := by
  unfold lastB
  rw [List.take_of_length_le (by rw [zeros_length]; omega), List.drop_of_length_le (by rw [be8_length]; omega), List.append_nil]
theorem lastB_8 (n : Nat) : lastB n 8 = be8 n := by simp [lastB]
set_option maxRecDepth 100000 in
theorem dform_any (n : Nat) (w : World) (hn : n < 9223372036854775808) : Calls Tryd.prog 88 #[.int .i64 (n : Int)] w (CloneB w (form n)) := by
  unfold CloneB
  go_enter Tryd.func88, Tryd.ntmps88
  go_wp2_with fail
  go_loopw [4, 5] (fun mv iv wr => ∃ j m : Nat, j ≤ 8 ∧ m = n / 256 ^ j ∧ mv = .int .i64 (m : Int) ∧ iv = .int .i64 (7 - (j : Int)) ∧ wr.heap[w.heap.size]? = some (.cells ((lastB n j).map V8).toArray 137 (0, 0)) ∧ Mod [] w wr) (fun _ iv _ => (intOf iv + 1).toNat)
  case atStart => exact ⟨0, n, by omega, by simp, rfl, rfl, by rw [lastB_0]; exact hp_new _ _ _ rfl, (Mod.refl [] w).alloc _⟩
  case round =>
    obtain ⟨j, m, hj, hm, rfl, rfl, hb, hmod⟩ := hrel
    have HB := Lib.hid hb
    have HM := Lib.hid hmod
    have HMM := Lib.hid hm
    by_cases hlt : j < 8
    · obtain ⟨k, hk⟩ : ∃ k, k = 7 - j := ⟨_, rfl⟩
      have hki : 7 - (j : Int) = (k : Int) := by omega
      have hkl : k < 8 := by omega
      have hmn : m < 9223372036854775808 := by rw [hm]; exact Nat.lt_of_le_of_lt (Nat.div_le_self _ _) hn
      have hc : ∃ u, wr.cell? ⟨w.heap.size, k, none⟩ = some (V8 u) := by
        rw [cell_blk hb, List.getElem?_toArray, List.getElem?_map, List.getElem?_eq_getElem (by rw [lastB_len]; exact hkl)]
        exact ⟨_, rfl⟩
      obtain ⟨u, hu⟩ := hc
      have hf := frozen_blk hb k
      have hr8 : (m : Int).tmod 256 = ((m % 256 : Nat) : Int) := rfl
      have hq8 : (m : Int).tdiv 256 = ((m / 256 : Nat) : Int) := rfl
      have HK := Lib.hid hk
      clear hb hmod hk hm
      have hv : (Value.int .u8 ((m : Int) % 256)) = V8 (UInt8.ofNat m) := by unfold V8; rw [UInt8.toNat_ofNat']; rfl
      have HVV := Lib.hid hv
      clear hv
      go_wp2_with fail
      refine ⟨⟨j + 1, m / 256, by omega, by rw [HMM.out, Nat.div_div_eq_div_mul, Nat.pow_succ], rfl, by congr 1; omega, ?_, HM.out.setCell (p := ⟨w.heap.size, k, none⟩) (.inr (Nat.le_refl _)) _⟩, by simp only [intOf]; omega⟩
      rw [HVV.out, hp_sc HB.out, ← lastB_succ n j hlt, ← HMM.out, ← HK.out]
      simp [List.map_set]
    · have hj8 : j = 8 := by omega
      subst hj8
      rw [lastB_8] at hb
      have hr : Rd V8 wr (some ⟨w.heap.size, 0, none⟩) 8 (be8 n) := Rd.of_blk hb (fun j v hv => by simpa using hv) (by rw [be8_length]; omega)
      have HBA := dbare_any (some ⟨w.heap.size, 0, none⟩) 8 (be8 n) wr hr (by rw [be8_length]; omega)
      rw [be8_length] at HBA
      have HBB0 := Lib.hid HBA
      clear hb hmod hm hr HBA
      go_wp2_with fail
      refine HBB0.out.mono ?_
      rintro e w2 ⟨q, c, rfl, hrd, hw2⟩
      subst hw2
      have hbl := bare_length (be8 n)
      rw [be8_length] at hbl
      obtain ⟨b, hbb⟩ : ∃ b, b = bare (be8 n) := ⟨_, rfl⟩
      rw [← hbb] at hrd hbl ⊢
      have HRD := Lib.hid hrd
      have HBB := Lib.hid hbb
      have cv := cv_byte (b.length : Int)
      obtain ⟨z, hz⟩ : ∃ z, z = byteOf (b.length : Int) := ⟨_, rfl⟩
      rw [← hz] at cv
      have HZ := Lib.hid hz
      clear hrd hbb hz HBB0
      go_wp2_with (at_builtin; with_reducible refine froz_app _ _ rfl ?_)
      unfold Froz
      refine wpList_pushAll rfl _ _ rfl w2.heap.size _ [z] (one_new w2 z) rfl q b.length c b rfl rfl (HRD.out.mod0 ((Mod.refl [] w2).alloc _)) (by simp; omega) (by simp) ?_
      intro v' w' ho hg
      have HO := Lib.hid (ho.mono HM.out.size)
      have HG := Lib.hid (((Mod.refl [] w2).alloc (.cells #[V8 z] 5)).of_grown hg (fun x hx => .inr (by injection hx with hx; simp only at hx; omega)))
      have HMM3 := Lib.hid (HM.out.trans0 HG.out)
      clear ho hg cv
      go_wp2_with fail
      go_ret
      refine ⟨v', rfl, ?_, HMM3.out⟩
      have e : form n = [z] ++ b := by
        unfold form short
        rw [← HBB.out, HZ.out]
        have : byteOf (b.length : Int) = UInt8.ofNat b.length := by
          unfold byteOf
          apply UInt8.toNat_inj.1
          rw [UInt8.toNat_ofNat', UInt8.toNat_ofNat']
          omega
        rw [this]; rfl
      rw [e]
      exact HO.out
end Go.Proofs.YtmdgefiojapogaaDoor
namespace Go.Proofs.YtmdgefiojapogaaDoor
open Go.RowKit
attribute [local go_sem high] one8 st8 cm8 b_and8 b_and8r b_and8l b_or8 b_or8r b_or8l b_xor8 b_xor8r b_xor8l b_andNot8 b_andNot8r b_andNot8l b_add8 b_add8r b_add8l b_sub8 b_sub8r b_sub8l b_mul8 b_mul8r b_mul8l b_eql8 b_eql8r b_eql8l b_neq8 b_neq8r b_neq8l b_lss8 b_lss8r b_lss8l b_leq8 b_leq8r b_leq8l b_gtr8 b_gtr8r b_gtr8l b_geq8 b_geq8r b_geq8l b_quo8r b_rem8r b_shl8r b_shr8r b_shl8l b_shr8l u_xor8 g_eql8 g_neq8 g_eql8' g_neq8' one32 st32 cm32 b_and32 b_and32r b_and32l b_or32 b_or32r b_or32l b_xor32 b_xor32r b_xor32l b_andNot32 b_andNot32r b_andNot32l b_add32 b_add32r b_add32l b_sub32 b_sub32r b_sub32l b_mul32 b_mul32r b_mul32l b_eql32 b_eql32r b_eql32l b_neq32 b_neq32r b_neq32l b_lss32 b_lss32r b_lss32l b_leq32 b_leq32r b_leq32l b_gtr32 b_gtr32r b_gtr32l b_geq32 b_geq32r b_geq32l b_quo32r b_rem32r b_shl32r b_shr32r b_shl32l b_shr32l u_xor32 g_eql32 g_neq32 g_eql32' g_neq32' one64 st64 cm64 b_and64 b_and64r b_and64l b_or64 b_or64r b_or64l b_xor64 b_xor64r b_xor64l b_andNot64 b_andNot64r b_andNot64l b_add64 b_add64r b_add64l b_sub64 b_sub64r b_sub64l b_mul64 b_mul64r b_mul64l b_eql64 b_eql64r b_eql64l b_neq64 b_neq64r b_neq64l b_lss64 b_lss64r b_lss64l b_leq64 b_leq64r b_leq64l b_gtr64 b_gtr64r b_gtr64l b_geq64 b_geq64r b_geq64l b_quo64r b_rem64r b_shl64r b_shr64r b_shl64l b_shr64l u_xor64 g_eql64 g_neq64 g_eql64' g_neq64' c_u8_u8 c_u8_u32 c_u8_u64 c_i_u8 c_u32_u8 c_u32_u32 c_u32_u64 c_i_u32 c_u64_u8 c_u64_u32 c_u64_u64 c_i_u64 c_u8_i c_u32_i
attribute [local go_sem ↓] ce8 ce32 ce64
attribute [local go_sem ↓] sliced_slp
theorem dnumberW_any (B g : Nat) (v : Value) (W : Wr) (w : World) (h : IsV w B g v W) (hk : W.b.length ≤ 4194304) (n : Int) (hn : n ≤ 9223372036854775807) :
    Calls Tryd.prog 79 #[.pointer (some ⟨g, 0, none⟩), .int .i64 n] w (DwPost B g v (W.number n) (.tuple #[]) w) := by
  have H := Lib.hid h
  have c1 := h.c1
  have f1 := h.frz 1
  clear h
  by_cases he : W.e = 0
  · have d0 : (W.e != 0) = false := by simp [he]
    by_cases h0 : n < 0
    · have dn : decide (n < 0) = true := by simpa using h0
      have HW := Lib.hid (show W.number n = { W with e := 32 } by unfold Wr.number; rw [if_pos h0, if_pos he])
      clear he h0
      go_enter Tryd.func79, Tryd.ntmps79
      go_wp2_with fail
      refine bodyPost_ret (results_none rfl _ _ _) rfl ?_
      exact ⟨v, rfl, by rw [HW.out]; exact H.out.setE 32, (Mod.refl _ _).setCell (p := ⟨g, 1, none⟩) (.inl (mem_footB.2 (.inl rfl))) _, fun x hx => .inl hx⟩
    · have dn : decide (n < 0) = false := by simpa using h0
      obtain ⟨m, rfl⟩ : ∃ m : Nat, n = (m : Int) := ⟨n.toNat, by omega⟩
      have HW := Lib.hid (show W.number (m : Int) = W.lay (form m) by unfold Wr.number; rw [if_neg h0, Int.toNat_natCast])
      have HF := Lib.hid (dform_any m w (by omega))
      clear he h0 f1
      go_enter Tryd.func79, Tryd.ntmps79
      go_wp2_with fail
      refine HF.out.mono ?_
      rintro e w1 ⟨r, rfl, ho, m1⟩
      obtain ⟨p, cap, hv, hrd, _⟩ := ho.rd
      subst hv
      have HL := Lib.hid (dlay_any B g v W w1 (H.out.mod0 m1) hk p cap (form m) hrd (by have := form_length m; omega))
      have M1 := Lib.hid m1
      clear ho hrd m1 c1 HF
      go_wp2_with fail
      refine HL.out.mono ?_
      intro e w9 hp
      have hp2 := DwPost.from M1.out hp
      have he := hp.unit
      subst he
      rw [← HW.out] at hp2
      have HP := Lib.hid hp2
      clear hp hp2
      go_wp2_with fail
      go_end0
      exact HP.out
  · have d0 : (W.e != 0) = true := by simpa using he
    have HW := Lib.hid (show W.number n = W by
      unfold Wr.number
      split
      · first | rfl | rw [if_neg he]
      · unfold Wr.lay; rw [if_pos he])
    clear he
    go_enter Tryd.func79, Tryd.ntmps79
    go_wp2_with fail
    refine bodyPost_ret (results_none rfl _ _ _) rfl ?_
    exact ⟨v, rfl, by rw [HW.out]; exact H.out, Mod.refl _ _, fun x hx => .inl hx⟩
theorem dbytesW_any (B g : Nat) (v : Value) (W : Wr) (w : World) (h : IsV w B g v W) (hk : W.b.length ≤ 4194304) (p : Option Addr) (cap : Nat) (l : List UInt8) (hr : Rd V8 w p cap l) (hl : l.length ≤ 549755813888) :
    Calls Tryd.prog 81 #[.pointer (some ⟨g, 0, none⟩), .slice p l.length cap] w (DwPost B g v (W.lay (form l.length ++ l)) (.tuple #[]) w) := by
  have H := Lib.hid h
  have HR := Lib.hid hr
  have HF := Lib.hid (dform_any l.length w (by omega))
  clear h hr
  go_enter Tryd.func81, Tryd.ntmps81
  go_wp2_with fail
  refine HF.out.mono ?_
  rintro e w1 ⟨r, rfl, ho, m1⟩
  have hfl := form_length l.length
  have HO := Lib.hid ho
  have HM1 := Lib.hid m1
  have hsz := m1.size
  obtain ⟨p1, cap1, hv1, _, _⟩ := ho.rd
  clear ho m1 HF
  obtain ⟨f, hf⟩ : ∃ f, f = form l.length := ⟨_, rfl⟩
  rw [← hf] at HO hfl hv1 ⊢
  have HV1 := Lib.hid hv1
  subst hv1
  have HFF := Lib.hid hf
  clear hf
  go_wp2_with (at_builtin; with_reducible refine froz_app _ _ rfl ?_)
  unfold Froz
  refine wpList_pushAll rfl _ _ rfl w.heap.size _ f HO.out rfl p l.length cap l rfl rfl (HR.out.mod0 HM1.out) (by omega) hsz ?_
  intro v2 w2 ho2 hg2
  obtain ⟨x, hx⟩ : ∃ x, x = f ++ l := ⟨_, rfl⟩
  change Own w2 w.heap.size v2 (f ++ l) at ho2
  have hxl : x.length = f.length + l.length := by rw [hx, List.length_append]
  rw [← hx] at ho2
  have HX := Lib.hid hx
  have hm2 : Mod [] w w2 := HM1.out.of_grown hg2 (fun b hb => .inr (HO.out.row b hb))
  obtain ⟨p2, cap2, hv2, hrd2, _⟩ := ho2.rd
  subst hv2
  have HL := Lib.hid (dlay_any B g v W w2 (H.out.mod0 hm2) hk p2 cap2 x hrd2 (by omega))
  have HM2 := Lib.hid hm2
  clear ho2 hg2 hx hm2 hrd2 hxl
  go_wp2_with fail
  refine HL.out.mono ?_
  intro e w9 hp
  have hp2 := DwPost.from HM2.out hp
  have he := hp.unit
  subst he
  have HP := Lib.hid hp2
  clear hp hp2
  go_wp2_with fail
  go_end0
  have hpo := HP.out
  rw [HX.out, HFF.out] at hpo
  exact hpo
end Go.Proofs.YtmdgefiojapogaaDoor
namespace Go.Proofs.YtmdgefiojapogaaDoor
open Go.RowKit
attribute [local go_sem high] one8 st8 cm8 b_and8 b_and8r b_and8l b_or8 b_or8r b_or8l b_xor8 b_xor8r b_xor8l b_andNot8 b_andNot8r b_andNot8l b_add8 b_add8r b_add8l b_sub8 b_sub8r b_sub8l b_mul8 b_mul8r b_mul8l b_eql8 b_eql8r b_eql8l b_neq8 b_neq8r b_neq8l b_lss8 b_lss8r b_lss8l b_leq8 b_leq8r b_leq8l b_gtr8 b_gtr8r b_gtr8l b_geq8 b_geq8r b_geq8l b_quo8r b_rem8r b_shl8r b_shr8r b_shl8l b_shr8l u_xor8 g_eql8 g_neq8 g_eql8' g_neq8' one32 st32 cm32 b_and32 b_and32r b_and32l b_or32 b_or32r b_or32l b_xor32 b_xor32r b_xor32l b_andNot32 b_andNot32r b_andNot32l b_add32 b_add32r b_add32l b_sub32 b_sub32r b_sub32l b_mul32 b_mul32r b_mul32l b_eql32 b_eql32r b_eql32l b_neq32 b_neq32r b_neq32l b_lss32 b_lss32r b_lss32l b_leq32 b_leq32r b_leq32l b_gtr32 b_gtr32r b_gtr32l b_geq32 b_geq32r b_geq32l b_quo32r b_rem32r b_shl32r b_shr32r b_shl32l b_shr32l u_xor32 g_eql32 g_neq32 g_eql32' g_neq32' one64 st64 cm64 b_and64 b_and64r b_and64l b_or64 b_or64r b_or64l b_xor64 b_xor64r b_xor64l b_andNot64 b_andNot64r b_andNot64l b_add64 b_add64r b_add64l b_sub64 b_sub64r b_sub64l b_mul64 b_mul64r b_mul64l b_eql64 b_eql64r b_eql64l b_neq64 b_neq64r b_neq64l b_lss64 b_lss64r b_lss64l b_leq64 b_leq64r b_leq64l b_gtr64 b_gtr64r b_gtr64l b_geq64 b_geq64r b_geq64l b_quo64r b_rem64r b_shl64r b_shr64r b_shl64l b_shr64l u_xor64 g_eql64 g_neq64 g_eql64' g_neq64' c_u8_u8 c_u8_u32 c_u8_u64 c_i_u8 c_u32_u8 c_u32_u32 c_u32_u64 c_i_u32 c_u64_u8 c_u64_u32 c_u64_u64 c_i_u64 c_u8_i c_u32_i
attribute [local go_sem ↓] ce8 ce32 ce64
attribute [local go_sem ↓] sliced_slp loadOWd storeOWd
theorem daddressW_any (B g : Nat) (v : Value) (W : Wr) (w : World) (h : IsV w B g v W) (hk : W.b.length ≤ 4194304) (d : List UInt8) (hd : d.length = 20) :
    Calls Tryd.prog 78 #[.pointer (some ⟨g, 0, none⟩), .agg (d.map V8).toArray] w (DwPost B g v (W.lay d) (.tuple #[]) w) := by
  have hm : Mod [] w (w.alloc (.cells (d.map V8).toArray 30)) := (Mod.refl [] w).alloc _
  have hr : Rd V8 (w.alloc (.cells (d.map V8).toArray 30)) (some ⟨w.heap.size, 0, none⟩) 20 d := Rd.of_blk (hp_new w _ _ rfl) (fun j v hv => by simpa using hv) (by omega)
  have hL := dlay_any B g v W _ (h.mod0 hm) hk (some ⟨w.heap.size, 0, none⟩) 20 d hr (by omega)
  rw [hd] at hL
  have HL := Lib.hid hL
  have HM := Lib.hid hm
  have HD := Lib.hid hd
  obtain ⟨cs, hcs⟩ : ∃ cs, cs = (d.map V8).toArray := ⟨_, rfl⟩
  rw [← hcs] at HL HM ⊢
  clear h hL hm hd hcs hr
  go_enter Tryd.func78, Tryd.ntmps78
  go_wp2_with fail
  refine HL.out.mono ?_
  intro e w2 hp
  have hp2 := DwPost.from HM.out hp
  have he := hp.unit
  subst he
  have HP := Lib.hid hp2
  clear hp hp2
  go_wp2_with fail
  go_end0
  exact HP.out
def q64 (x : UInt64) (k : Nat) : UInt64 := UInt64.ofNat (x.toNat / 256 ^ k)
theorem q64_toNat (x : UInt64) (k : Nat) : (q64 x k).toNat = x.toNat / 256 ^ k := by
  unfold q64
  rw [UInt64.toNat_ofNat']
  have h1 : x.toNat / 256 ^ k ≤ x.toNat := Nat.div_le_self _ _
  have h2 := x.toNat_lt
  exact Nat.mod_eq_of_lt (Nat.lt_of_le_of_lt h1 h2)
theorem q64_0 (x : UInt64) : q64 x 0 = x := by
  rw [← UInt64.toNat_inj, q64_toNat]; simp
theorem q64_step (x : UInt64) (k : Nat) : q64 x k / 256 = q64 x (k + 1) := by
  rw [← UInt64.toNat_inj, UInt64.toNat_div, q64_toNat, q64_toNat, Nat.pow_succ, Nat.div_div_eq_div_mul]
  rfl
theorem q64_byte (x : UInt64) (k : Nat) (hk : k < 8) : (q64 x k % 256).toUInt8 = (x >>> UInt64.ofNat (8 * k)).toUInt8 := by
  rw [← UInt8.toNat_inj, UInt64.toNat_toUInt8, UInt64.toNat_toUInt8, UInt64.toNat_mod, q64_toNat, UInt64.toNat_shiftRight, UInt64.toNat_ofNat', Nat.shiftRight_eq_div_pow]
  have h1 : 8 * k % 2 ^ 64 % 64 = 8 * k := by omega
  rw [h1, Nat.pow_mul]
  show x.toNat / 256 ^ k % 256 % 2 ^ 8 = x.toNat / 256 ^ k % 2 ^ 8
  omega
/-- The last t of 32 bytes are written. -/
def lastW (a : List UInt64) (t : Nat) : List UInt8 := zeros (32 - t) ++ (be32 a).drop (32 - t)
theorem lastW_len (a : List UInt64) (t : Nat) (ht : t ≤ 32) : (lastW a t).length = 32 := by
  unfold lastW; rw [List.length_append, zeros_length, List.length_drop, be32_length]; omega
theorem lastW_0 (a : List UInt64) : lastW a 0 = zeros 32 := by
  unfold lastW; rw [List.drop_of_length_le (by rw [be32_length]; omega), List.append_nil]
theorem lastW_32 (a : List UInt64) : lastW a 32 = be32 a := by
  unfold lastW; simp [zeros]
theorem lastW_step (a : List UInt64) (t : Nat) (ht : t < 32) (y : UInt8) (hy : (be32 a)[31 - t]? = some y) : (lastW a t).set (31 - t) y = lastW a (t + 1) := by
  unfold lastW
  have e1 : zeros (32 - t) = zeros (31 - t) ++ [0] := by
    unfold zeros
    rw [show 32 - t = (31 - t) + 1 by omega, List.replicate_succ']
  have hl : (zeros (31 - t)).length = 31 - t := zeros_length _
  rw [e1, List.append_assoc, List.set_append_right _ _ (by omega), hl, Nat.sub_self, show 32 - (t + 1) = 31 - t by omega]
  congr 1
  have h1 := (List.getElem?_eq_some_iff.1 hy)
  obtain ⟨h2, h3⟩ := h1
  rw [List.drop_eq_getElem_cons h2, h3, show 31 - t + 1 = 32 - t by omega]
  rfl
theorem be32_byte (a : List UInt64) (i k : Nat) (hi : i < 4) (hk : k < 8) (x : UInt64) (hx : a[i]? = some x) : (be32 a)[31 - (8 * i + k)]? = some (q64 x k % 256).toUInt8 := by
  unfold be32
  rw [List.getElem?_map, List.getElem?_range (by omega), q64_byte x k hk]
  have e1 : 3 - (31 - (8 * i + k)) / 8 = i := by omega
  have e2 : 56 - 8 * ((31 - (8 * i + k)) % 8) = 8 * k := by omega
  simp only [Option.map_some, e1, e2, hx, Option.getD_some]
set_option maxRecDepth 100000 in
theorem dplain_any (a : List UInt64) (w : World) (ha : a.length = 4) :
    Calls Tryd.prog 91 #[.agg (a.map V64).toArray] w fun e w' => e = .returned (.slice (some ⟨w.heap.size + 1, 0, none⟩) 32 32) ∧ w'.heap[w.heap.size + 1]? = some (.cells ((be32 a).map V8).toArray 5) ∧ Mod [] w w' := by
  have HA := Lib.hid ha
  obtain ⟨cs, hcs⟩ : ∃ cs, cs = (a.map V64).toArray := ⟨_, rfl⟩
  have HCS := Lib.hid hcs
  rw [← hcs]
  clear ha hcs
  go_enter Tryd.func91, Tryd.ntmps91
  go_wp2_with (first
    | (at_make; with_reducible refine wpList_make8 rfl _ _ rfl 32 32 rfl rfl rfl (by omega) ?_))
  go_wp2_with fail
  go_loopw [4] (fun iv wr => ∃ i : Nat, i ≤ 4 ∧ iv = .int .i64 i ∧ wr.heap[w.heap.size]? = some (.cells cs 33 (0, 0)) ∧ wr.heap[w.heap.size + 1]? = some (.cells ((lastW a (8 * i)).map V8).toArray 5 (0, 0)) ∧ Mod [] w wr) (fun iv _ => 4 - (intOf iv).toNat)
  case atStart => exact ⟨0, by omega, rfl, hp_old (hp_new w _ _ rfl), by rw [Nat.mul_zero, lastW_0]; exact hp_new _ _ _ (by simp), ((Mod.refl [] w).alloc _).alloc _⟩
  case round =>
    obtain ⟨i, hi, rfl, hb0, hb, hm⟩ := hrel
    have HB := Lib.hid hb
    have HM := Lib.hid hm
    have HB0 := Lib.hid hb0
    clear hb hm
    by_cases hlt : i < 4
    · obtain ⟨x, hx⟩ : ∃ x, a[i]? = some x := ⟨a[i]'(by rw [HA.out]; omega), List.getElem?_eq_getElem _⟩
      have hcx : wr.cell? ⟨w.heap.size, i, none⟩ = some (V64 (q64 x 0)) := by
        rw [cell_blk hb0, HCS.out, List.getElem?_toArray, List.getElem?_map, hx, q64_0]; rfl
      have HX := Lib.hid hx
      have HI := Lib.hid hlt
      have p0 : (0 : Int) ≤ (i : Int) := by omega
      have p1 : (i : Int) < 4 := by omega
      obtain ⟨y0, hy0⟩ : ∃ y0, y0 = q64 x 0 := ⟨_, rfl⟩
      rw [← hy0] at hcx
      have HY0 := Lib.hid hy0
      clear hb0 hx hy0
      go_wp2_with fail
      obtain ⟨wo, hwo⟩ : ∃ wo, wo = wr := ⟨_, rfl⟩
      have HWO := Lib.hid hwo
      rw [← hwo] at HB HM HB0
      clear hwo hcx
      go_loopw [5, 6] (fun xv kv wr => ∃ k : Nat, k ≤ 8 ∧ kv = .int .i64 k ∧ xv = V64 (q64 x k) ∧ wr.heap[w.heap.size]? = some (.cells cs 33 (0, 0)) ∧ wr.heap[w.heap.size + 1]? = some (.cells ((lastW a (8 * i + k)).map V8).toArray 5 (0, 0)) ∧ Mod [] w wr) (fun _ kv _ => 8 - (intOf kv).toNat)
      case atStart => exact ⟨0, by omega, rfl, by rw [HY0.out], by rw [← HWO.out]; exact HB0.out, by rw [← HWO.out]; exact HB.out, by rw [← HWO.out]; exact HM.out⟩
      case round =>
        obtain ⟨k, hk, rfl, rfl, hb0, hb, hm⟩ := hrel
        have HB1 := Lib.hid hb
        have HM1 := Lib.hid hm
        have HB01 := Lib.hid hb0
        by_cases hk8 : k < 8
        · obtain ⟨y, hy⟩ : ∃ y, y = q64 x k := ⟨_, rfl⟩
          rw [← hy]
          have hby := be32_byte a i k HI.out hk8 x HX.out
          rw [← hy] at hby
          obtain ⟨z, hz⟩ : ∃ z, z = (y % 256).toUInt8 := ⟨_, rfl⟩
          rw [← hz] at hby
          have hstp := lastW_step a (8 * i + k) (by have := HI.out; omega) z hby
          have HST := Lib.hid hstp
          have HY := Lib.hid hy
          have hll := lastW_len a (8 * i + k) (by have := HI.out; omega)
          obtain ⟨j, hj⟩ : ∃ j, j = 31 - (8 * i + k) := ⟨_, rfl⟩
          rw [← hj] at HST
          have hji : (31 : Int) - 8 * (i : Int) - (k : Int) = (j : Int) := by have := HI.out; omega
          have hj32 : j < 32 := by omega
          have hc : wr.cell? ⟨w.heap.size + 1, j, none⟩ = some (V8 ((lastW a (8 * i + k)).getD j 0)) := by
            rw [cell_blk hb]
            simpa using cell_map V8 (lastW a (8 * i + k)) j 0 (by omega)
          have hf : wr.frozen? ⟨w.heap.size + 1, j, none⟩ = false := frozen_blk hb j
          generalize (lastW a (8 * i + k)).getD j 0 = old at hc
          have q0 : (0 : Int) ≤ (j : Int) := by omega
          have q1 : (j : Int) < 32 := by omega
          have HZ := Lib.hid hz
          have HJ := Lib.hid hj
          clear hb hm hb0 hstp hll hby hy hz hj
          go_wp2_with fail
          go_roundw
          case rel =>
            refine ⟨k + 1, hk8, by go_num, by rw [HY.out, q64_step], hp_sc_ne HB01.out (by omega), ?_, HM1.out.setCell (.inr (by simp)) _⟩
            have h := hp_sc (j := j) (v := V8 (y % 256).toUInt8) HB1.out
            rw [map_set] at h
            rw [← HZ.out] at h ⊢
            rw [HST.out] at h
            exact h
          case measure => simp [intOf]; omega
        · obtain rfl : k = 8 := by omega
          clear hb hm hb0
          go_wp2_with fail
          go_roundw
          case rel => exact ⟨i + 1, by omega, by go_num, HB01.out, HB1.out, HM1.out⟩
          case measure => simp [intOf]; omega
    · obtain rfl : i = 4 := by omega
      go_wp2_with fail
      go_ret
      exact ⟨rfl, by have h := HB.out; rwa [lastW_32] at h, HM.out⟩
theorem infoWd : (Tryd.prog.info? 33).map (·.size) = some 4 := by kernel_rfl
theorem loadWd {w : World} {b : Nat} {fr : Nat × Nat} (a : List UInt64) (ha : a.length = 4) (hg : w.heap[b]? = some (.cells (a.map V64).toArray 33 fr)) :
    (LoadO 33 (.pointer (some ⟨b, 0, none⟩))).run Tryd.prog w = .ok (.agg (a.map V64).toArray) w :=
  loadO_mid (range_blk hg 0 (a.map V64) (fun j v hv => by simpa using hv)) Tryd.underlying33 rfl (by rw [List.length_map, ha]; exact infoWd)
theorem dwide_any (a : List UInt64) (w : World) (ha : a.length = 4) :
    Calls Tryd.prog 89 #[.agg (a.map V64).toArray] w (CloneB w (short (be32 a))) := by
  have HP := Lib.hid (fun (V : World) => dplain_any a V ha)
  have hm0 : Mod [] w (w.alloc (.cells (a.map V64).toArray 33)) := (Mod.refl [] w).alloc _
  have HM0 := Lib.hid hm0
  have hL0 := loadWd a ha (hp_new w (.cells (a.map V64).toArray 33) _ rfl)
  obtain ⟨cs, hcs⟩ : ∃ cs, cs = (a.map V64).toArray := ⟨_, rfl⟩
  rw [← hcs] at HP HM0 hL0 ⊢
  clear ha hm0 hcs
  go_enter Tryd.func89, Tryd.ntmps89
  go_wp2_with fail
  refine (HP.out _).mono ?_
  rintro e w2 ⟨rfl, hb2, m2⟩
  obtain ⟨g, hg⟩ : ∃ g, g = (w.alloc (.cells cs 33)).heap.size + 1 := ⟨_, rfl⟩
  rw [← hg] at hb2 ⊢
  have hr : Rd V8 w2 (some ⟨g, 0, none⟩) 32 (be32 a) := Rd.of_blk hb2 (fun j v hv => by simpa using hv) (by rw [be32_length]; omega)
  have hba := dbare_any (some ⟨g, 0, none⟩) 32 (be32 a) w2 hr (by rw [be32_length]; omega)
  rw [be32_length] at hba
  have HBA := Lib.hid hba
  have HM := Lib.hid (HM0.out.trans0 m2)
  clear hg hb2 m2 hr hba
  go_wp2_with fail
  refine HBA.out.mono ?_
  rintro e w3 ⟨q, c, rfl, hrd, hw3⟩
  subst hw3
  have hbl := bare_length (be32 a)
  rw [be32_length] at hbl
  obtain ⟨b, hbb⟩ : ∃ b, b = bare (be32 a) := ⟨_, rfl⟩
  rw [← hbb] at hrd hbl ⊢
  have HRD := Lib.hid hrd
  have HBB := Lib.hid hbb
  have cv := cv_byte (b.length : Int)
  obtain ⟨z, hz⟩ : ∃ z, z = byteOf (b.length : Int) := ⟨_, rfl⟩
  rw [← hz] at cv
  have HZ := Lib.hid hz
  clear hrd hbb hz HBA
  go_wp2_with (at_builtin; with_reducible refine froz_app _ _ rfl ?_)
  unfold Froz
  refine wpList_pushAll rfl _ _ rfl w3.heap.size _ [z] (one_new w3 z) rfl q b.length c b rfl rfl (HRD.out.mod0 ((Mod.refl [] w3).alloc _)) (by simp; omega) (by simp) ?_
  intro v' w' ho hg
  have HO := Lib.hid (ho.mono HM.out.size)
  have HG := Lib.hid (((Mod.refl [] w3).alloc (.cells #[V8 z] 5)).of_grown hg (fun x hx => .inr (by injection hx with hx; simp only at hx; omega)))
  have HMM3 := Lib.hid (HM.out.trans0 HG.out)
  clear ho hg cv
  go_wp2_with fail
  go_ret
  refine ⟨v', rfl, ?_, HMM3.out⟩
  have e : short (be32 a) = [z] ++ b := by
    unfold short
    rw [← HBB.out, HZ.out]
    have : byteOf (b.length : Int) = UInt8.ofNat b.length := by
      unfold byteOf
      apply UInt8.toNat_inj.1
      rw [UInt8.toNat_ofNat', UInt8.toNat_ofNat']
      omega
    rw [this]; rfl
  rw [e]
  exact HO.out
theorem dwideW_any (B g : Nat) (v : Value) (W : Wr) (w : World) (h : IsV w B g v W) (hk : W.b.length ≤ 4194304) (a : List UInt64) (ha : a.length = 4) :
    Calls Tryd.prog 80 #[.pointer (some ⟨g, 0, none⟩), .agg (a.map V64).toArray] w (DwPost B g v (W.lay (short (be32 a))) (.tuple #[]) w) := by
  have hm0 : Mod [] w (w.alloc (.cells (a.map V64).toArray 33)) := (Mod.refl [] w).alloc _
  have hL0 := loadWd a ha (hp_new w (.cells (a.map V64).toArray 33) _ rfl)
  have HWD := Lib.hid (fun (V : World) => dwide_any a V ha)
  have HM0 := Lib.hid hm0
  have H := Lib.hid h
  obtain ⟨cs, hcs⟩ : ∃ cs, cs = (a.map V64).toArray := ⟨_, rfl⟩
  rw [← hcs] at HWD HM0 hL0 ⊢
  clear ha hm0 hcs h
  go_enter Tryd.func80, Tryd.ntmps80
  go_wp2_with fail
  refine (HWD.out _).mono ?_
  rintro e w2 ⟨r, rfl, ho, m2⟩
  obtain ⟨q, c, hrv, hrd, hqb⟩ := ho.rd
  subst hrv
  have hsl := short_length (be32 a)
  rw [be32_length] at hsl
  obtain ⟨x, hx⟩ : ∃ x, x = short (be32 a) := ⟨_, rfl⟩
  rw [← hx] at hrd hsl ⊢
  have HX := Lib.hid hx
  have HM2 := Lib.hid (HM0.out.trans0 m2)
  have HL := Lib.hid (dlay_any B g v W w2 (H.out.mod0 HM2.out) hk q c x hrd (by omega))
  clear ho m2 hrd hqb hx hL0
  go_wp2_with fail
  refine HL.out.mono ?_
  intro e w9 hp
  have hp2 := DwPost.from HM2.out hp
  have he := hp.unit
  subst he
  have HP := Lib.hid hp2
  clear hp hp2
  go_wp2_with fail
  go_end0
  have hpo := HP.out
  rw [HX.out] at hpo
  exact hpo
end Go.Proofs.YtmdgefiojapogaaDoor
