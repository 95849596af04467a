/- The reference's laid: the text, a bit, noughts, the length. Condition: fewer than 2^47 bytes. -/
import Derived.Test.YtmdgefiojapogaaDoorRfTaken
import Derived.Deep.DeepCutAuto
namespace Go.Proofs.YtmdgefiojapogaaDoor
open Go.RowKit
attribute [local go_sem high] one8 st8 cm8 b_and8 b_and8r b_and8l b_or8 b_or8r b_or8l b_xor8 b_xor8r b_xor8l b_andNot8 b_andNot8r b_andNot8l b_add8 b_add8r b_add8l b_sub8 b_sub8r b_sub8l b_mul8 b_mul8r b_mul8l b_eql8 b_eql8r b_eql8l b_neq8 b_neq8r b_neq8l b_lss8 b_lss8r b_lss8l b_leq8 b_leq8r b_leq8l b_gtr8 b_gtr8r b_gtr8l b_geq8 b_geq8r b_geq8l b_quo8r b_rem8r b_shl8r b_shr8r b_shl8l b_shr8l u_xor8 g_eql8 g_neq8 g_eql8' g_neq8' one32 st32 cm32 b_and32 b_and32r b_and32l b_or32 b_or32r b_or32l b_xor32 b_xor32r b_xor32l b_andNot32 b_andNot32r b_andNot32l b_add32 b_add32r b_add32l b_sub32 b_sub32r b_sub32l b_mul32 b_mul32r b_mul32l b_eql32 b_eql32r b_eql32l b_neq32 b_neq32r b_neq32l b_lss32 b_lss32r b_lss32l b_leq32 b_leq32r b_leq32l b_gtr32 b_gtr32r b_gtr32l b_geq32 b_geq32r b_geq32l b_quo32r b_rem32r b_shl32r b_shr32r b_shl32l b_shr32l u_xor32 g_eql32 g_neq32 g_eql32' g_neq32' one64 st64 cm64 b_and64 b_and64r b_and64l b_or64 b_or64r b_or64l b_xor64 b_xor64r b_xor64l b_andNot64 b_andNot64r b_andNot64l b_add64 b_add64r b_add64l b_sub64 b_sub64r b_sub64l b_mul64 b_mul64r b_mul64l b_eql64 b_eql64r b_eql64l b_neq64 b_neq64r b_neq64l b_lss64 b_lss64r b_lss64l b_leq64 b_leq64r b_leq64l b_gtr64 b_gtr64r b_gtr64l b_geq64 b_geq64r b_geq64l b_quo64r b_rem64r b_shl64r b_shr64r b_shl64l b_shr64l u_xor64 g_eql64 g_neq64 g_eql64' g_neq64' c_u8_u8 c_u8_u32 c_u8_u64 c_i_u8 c_u32_u8 c_u32_u32 c_u32_u64 c_i_u32 c_u64_u8 c_u64_u32 c_u64_u64 c_i_u64 c_u8_i c_u32_i
attribute [local go_sem ↓] ce8 ce32 ce64
theorem shl8V (t : TypeId) (n : Int) (m : Nat) (h0 : 0 ≤ n) (h1 : n < 256) (hm : m < 8) : binOp .shl t (.int .u8 n) (V64 (UInt64.ofNat m)) = pure (V8 (UInt8.ofNat n.toNat <<< UInt8.ofNat m)) := by
  have e : (UInt64.ofNat m).toNat = m := by rw [UInt64.toNat_ofNat']; omega
  unfold V64
  rw [e, b_shl8l t n .u64 m h0 h1 (by omega) (by omega), Int.toNat_natCast]
theorem shr64V (t : TypeId) (a : UInt64) (m : Nat) (hm : m < 64) : binOp .shr t (V64 a) (V64 (UInt64.ofNat m)) = pure (V64 (a >>> UInt64.ofNat m)) := by
  have e : (UInt64.ofNat m).toNat = m := by rw [UInt64.toNat_ofNat']; omega
  have h := b_shr64r t a .u64 m (by omega) (by omega)
  rw [Int.toNat_natCast] at h
  rw [← h, show V64 (UInt64.ofNat m) = Value.int .u64 m by unfold V64; rw [e]]
theorem shr32V (t : TypeId) (a : UInt32) (m : Nat) (hm : m < 32) : binOp .shr t (V32 a) (V64 (UInt64.ofNat m)) = pure (V32 (a >>> UInt32.ofNat m)) := by
  have e : (UInt64.ofNat m).toNat = m := by rw [UInt64.toNat_ofNat']; omega
  have h := b_shr32r t a .u64 m (by omega) (by omega)
  rw [Int.toNat_natCast] at h
  rw [← h, show V64 (UInt64.ofNat m) = Value.int .u64 m by unfold V64; rw [e]]
def MadePost (w : World) (l : List UInt8) (e : Ending) (w' : World) : Prop := ∃ v, e = .returned v ∧ Own w' w.heap.size v l ∧ Mod [] w w'
/-- The last byte: the bits that are left, a bit, noughts. -/
def markOf (d : List UInt8) (n : Nat) : UInt8 := if n % 8 = 0 then 128 else d.getD (n / 8) 0 &&& ~~~((2 : UInt8) * ((1 : UInt8) <<< UInt8.ofNat (7 - n % 8)) - 1) ||| 1 <<< UInt8.ofNat (7 - n % 8)
def text (d : List UInt8) (n : Nat) : List UInt8 := d.take (n / 8) ++ [markOf d n]
def lenByte (n : Nat) (i : Nat) : UInt8 := (UInt64.ofNat n >>> UInt64.ofNat (8 * i)).toUInt8
def laidOf (d : List UInt8) (n : Nat) : List UInt8 := text d n ++ zeros ((120 - (text d n).length % 64) % 64) ++ (List.range 8).map (fun i => lenByte n (7 - i))
def lenOf : Value → Nat
  | .slice _ n _ => n
  | _ => 0
theorem zeros_succ (j : Nat) : zeros (j + 1) = zeros j ++ [0] := by simp [zeros, List.replicate_succ']
set_option maxRecDepth 100000 in
set_option maxHeartbeats 1000000 in
theorem laid_any (p : Option Addr) (cap : Nat) (d : List UInt8) (n : Nat) (w : World) (hr : Rd V8 w p cap d) (hn : n ≤ 8 * d.length) (hd : d.length ≤ 70368744177664) :
    Calls Tryd.prog 75 #[.slice p d.length cap, .int .i64 n] w (MadePost w (laidOf d n)) := by
  have HR := Lib.hid hr
  clear hr
  go_enter Tryd.func75, Tryd.ntmps75
  go_wp2_with fail
  go_loopw [5, 6] (fun v i wr => ∃ k, k ≤ n / 8 ∧ i = .int .i64 k ∧ Own wr w.heap.size v (d.take k) ∧ Mod [] w wr) (fun _ i _ => n / 8 - (intOf i).toNat)
  case atStart => exact ⟨0, by omega, rfl, Own.nil _ _, Mod.refl _ _⟩
  case round =>
    obtain ⟨k, hk, rfl, hown, hm⟩ := hrel
    have HO := Lib.hid hown
    clear hown
    by_cases hlt : k < n / 8
    · have hx : d[k]? = some (d.getD k 0) := by simp [List.getElem?_eq_getElem (show k < d.length by omega)]
      obtain ⟨b, o, rfl, hc⟩ := HR.out.cell k _ hx
      have hb : b < w.heap.size := block_lt_of_cell hc
      have hcr : wr.cell? ⟨b, o + k, none⟩ = some (V8 (d.getD k 0)) := by
        rw [World.cell?_of_block (w := w) (hm.block b hb (by simp))]; exact hc
      have hlt' : (k : Int) < (n : Int) / 8 := by omega
      have HX := Lib.hid hx
      clear hc hx
      go_wp2_with (at_builtin; refine wpList_push rfl _ _ rfl w.heap.size _ _ (HO.out.alloc _) rfl _ 0 1 1 [d.getD k 0] rfl rfl (range_one _ _ _ _ rfl) (by simp; omega) (by have := hm.size; simp; omega) ?_; intro v' w5 ho5 hg5; have HO5 := Lib.hid ho5; clear ho5)
      go_roundw
      case rel =>
        refine ⟨k + 1, by omega, by go_num, ?_, (hm.alloc _).of_grown hg5 (fun g hg => .inr (HO.out.row g hg))⟩
        rw [List.take_add_one, HX.out]; exact HO5.out
      case measure => simp [intOf]; omega
    · have hkk : k = n / 8 := by omega
      have hd1 : decide ((k : Int) < (n : Int) / 8) = false := by simp; omega
      have HK := Lib.hid hkk
      clear hkk hlt
      go_upto_if 25 with fail
      clear hd1
      go_cut [5] (fun v wx => Own wx w.heap.size v (text d n) ∧ Mod [] w wx)
      case first =>
        by_cases hn8 : n % 8 = 0
        · have hd2 : decide ((n : Int) % 8 = 0) = true := by simp; omega
          go_wp2_with (at_builtin; refine wpList_push rfl _ _ rfl w.heap.size _ _ (HO.out.alloc _) rfl _ 0 1 1 [128] rfl rfl (range_one _ _ _ _ rfl) (by simp; omega) (by have := hm.size; simp; omega) ?_; intro v' w5 ho5 hg5; have HO5 := Lib.hid ho5; clear ho5)
          go_meet
          case rel =>
            refine ⟨?_, (hm.alloc _).of_grown hg5 (fun g hg => .inr (HO.out.row g hg))⟩
            have h := HO5.out
            rw [HK.out] at h
            simpa [text, markOf, hn8] using h
        · have hd2 : decide ((n : Int) % 8 = 0) = false := by simp; omega
          have hx : d[n / 8]? = some (d.getD (n / 8) 0) := by simp [List.getElem?_eq_getElem (show n / 8 < d.length by omega)]
          obtain ⟨b, o, rfl, hc⟩ := HR.out.cell (n / 8) _ hx
          have hb : b < w.heap.size := block_lt_of_cell hc
          have hcr : wr.cell? ⟨b, o + n / 8, none⟩ = some (V8 (d.getD (n / 8) 0)) := by
            rw [World.cell?_of_block (w := w) (hm.block b hb (by simp))]; exact hc
          have hlt' : (n : Int) / 8 < d.length := by omega
          have hm7 : 7 - ((n : Int) % 8) = ((7 - n % 8 : Nat) : Int) := by omega
          have hm8 : 7 - n % 8 < 8 := by omega
          have hsh := shl8V 5 1 (7 - n % 8) (by decide) (by decide) hm8
          change binOp .shl 5 (.int .u8 1) (V64 (UInt64.ofNat (7 - n % 8))) = pure (V8 ((1 : UInt8) <<< UInt8.ofNat (7 - n % 8))) at hsh
          obtain ⟨one, hone⟩ : ∃ x : UInt8, x = (1 : UInt8) <<< UInt8.ofNat (7 - n % 8) := ⟨_, rfl⟩
          rw [← hone] at hsh
          have HONE := Lib.hid hone
          clear hc hx hone
          go_wp2_with (at_builtin; refine wpList_push rfl _ _ rfl w.heap.size _ _ (HO.out.alloc _) rfl _ 0 1 1 [d.getD (n / 8) 0 &&& ~~~((2 : UInt8) * one - 1) ||| one] rfl rfl (range_one _ _ _ _ rfl) (by simp; omega) (by have := hm.size; simp; omega) ?_; intro v' w5 ho5 hg5; have HO5 := Lib.hid ho5; clear ho5)
          go_meet
          case rel =>
            refine ⟨?_, (hm.alloc _).of_grown hg5 (fun g hg => .inr (HO.out.row g hg))⟩
            have h := HO5.out
            rw [HK.out] at h
            unfold text markOf
            rw [if_neg hn8, ← HONE.out]
            exact h
      case rest =>
        clear hm HO HK
        rename_i v0
        obtain ⟨hown0, hm0⟩ := hcut
        have HO0 := Lib.hid hown0
        clear hown0
        obtain ⟨L, hL⟩ : ∃ L, L = (text d n).length := ⟨_, rfl⟩
        have hLn : L ≤ 70368744177665 := by rw [hL]; simp [text]; omega
        have HL := Lib.hid hL
        clear hL
        go_wp2_with fail
        go_loopw [5] (fun v wr => ∃ j, j ≤ (120 - L % 64) % 64 ∧ lenOf v = L + j ∧ Own wr w.heap.size v (text d n ++ zeros j) ∧ Mod [] w wr) (fun v _ => (120 - lenOf v % 64) % 64)
        case atStart => exact ⟨0, by omega, by obtain ⟨q, c, hv, _⟩ := HO0.out.rd; rw [hv, HL.out]; rfl, by simpa [zeros] using HO0.out, hm0⟩
        case round =>
          clear HO0 hm0
          obtain ⟨j, hj, hlen, hown, hm⟩ := hrel
          obtain ⟨q, c, rfl, _, _⟩ := hown.rd
          have hlj : (text d n ++ zeros j).length = L + j := by rw [List.length_append, zeros_length, HL.out]
          rw [hlj] at hown
          have HO := Lib.hid hown
          have HLJ := Lib.hid hlj
          have HLEN := Lib.hid hlen
          rw [hlj]
          clear hown hlj hlen
          by_cases hlt : j < (120 - L % 64) % 64
          · have hne : ¬ ((L : Int) + (j : Int)) % 64 = 56 := by omega
            go_wp2_with (at_builtin; refine wpList_push rfl _ _ rfl w.heap.size _ _ (HO.out.alloc _) rfl _ 0 1 1 [0] rfl rfl (range_one _ 0 _ _ rfl) (by rw [HLJ.out]; show L + j + 1 ≤ _; omega) (by have := hm.size; simp; omega) ?_; intro v' w5 ho5 hg5; have HO5 := Lib.hid ho5; clear ho5)
            go_roundw
            case rel =>
              refine ⟨j + 1, by omega, ?_, ?_, (hm.alloc _).of_grown hg5 (fun g hg => .inr (HO.out.row g hg))⟩
              · obtain ⟨q', c', hv, _⟩ := HO5.out.rd
                rw [hv]; simp [lenOf, zeros_length, ← HL.out, Nat.add_assoc]
              · rw [zeros_succ, ← List.append_assoc]; exact HO5.out
            case measure =>
              obtain ⟨q', c', hv, _⟩ := HO5.out.rd
              rw [hv]; simp [lenOf, zeros_length, ← HL.out]; omega
          · have hjj : j = (120 - L % 64) % 64 := by omega
            have he : ((L : Int) + (j : Int)) % 64 = 56 := by omega
            have HJ := Lib.hid hjj
            clear hjj hlt
            go_wp2_with fail
            clear he
            have hm0 := hm
            clear hm
            go_loopw [5, 9] (fun v i wr => ∃ t : Nat, t ≤ 8 ∧ i = .int .i64 (7 - (t : Int)) ∧ Own wr w.heap.size v (text d n ++ zeros j ++ (List.range t).map (fun i => lenByte n (7 - i))) ∧ Mod [] w wr) (fun _ i _ => (intOf i + 1).toNat)
            case atStart =>
              refine ⟨0, by omega, rfl, ?_, hm0⟩
              have h := HO.out
              have hlj := HLJ.out
              simpa using h
            case round =>
              clear HO hm0
              obtain ⟨t, ht8, rfl, hown, hm⟩ := hrel
              have HO := Lib.hid hown
              clear hown
              by_cases hlt : t < 8
              · obtain ⟨q7, hq7⟩ : ∃ q7 : Nat, q7 = 7 - t := ⟨_, rfl⟩
                have hq : (7 : Int) - (t : Int) = (q7 : Int) := by omega
                have hq8 : q7 < 8 := by omega
                have HQ := Lib.hid hq
                have HQ7 := Lib.hid hq7
                rw [hq]
                clear hq7 hq
                have h8 : (8 * (q7 : Int)) < 64 := by omega
                have h80 : (0 : Int) ≤ 8 * (q7 : Int) := by omega
                have hsh := shr64V 31 (UInt64.ofNat n) (8 * q7) (by omega)
                rw [show UInt64.ofNat (8 * q7) = 8 * UInt64.ofNat q7 by simp] at hsh
                go_wp2_with (at_builtin; refine wpList_push rfl _ _ rfl w.heap.size _ _ (HO.out.alloc _) rfl _ 0 1 1 [(UInt64.ofNat n >>> (8 * UInt64.ofNat q7)).toUInt8] rfl rfl (range_one _ _ _ _ rfl) (by have := HLJ.out; simp only [List.length_append] at this ⊢; simp; omega) (by have := hm.size; simp; omega) ?_; intro v' w5 ho5 hg5; have HO5 := Lib.hid ho5; clear ho5)
                go_roundw
                case rel =>
                  have hq := HQ.out
                  refine ⟨t + 1, by omega, by go_num, ?_, (hm.alloc _).of_grown hg5 (fun g hg => .inr (HO.out.row g hg))⟩
                  rw [map_range_succ, ← List.append_assoc]
                  have e : lenByte n (7 - t) = (UInt64.ofNat n >>> (8 * UInt64.ofNat q7)).toUInt8 := by rw [HQ7.out]; simp [lenByte]
                  rw [e]; exact HO5.out
                case measure => simp [intOf]
              · have ht : t = 8 := by omega
                have hneg : (7 : Int) - (t : Int) = -1 := by omega
                have HT := Lib.hid ht
                rw [hneg]
                clear hlt ht hneg
                go_wp2_with fail
                go_ret
                refine ⟨_, rfl, ?_, hm⟩
                have h := HO.out
                rw [HT.out, HJ.out, HL.out] at h
                exact h
end Go.Proofs.YtmdgefiojapogaaDoor
