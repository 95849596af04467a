/- short, form, lay, Number, Done, NewWriter. Conditions: what is laid is of at most 2^40 bytes. -/
import Derived.Test.YtmdgefiojapogaaDoorWrMem
namespace Go.Proofs.YtmdgefiojapogaaDoor
open Go.RowKit
attribute [local go_sem high] one8 st8 cm8 b_and8 b_and8r b_and8l b_or8 b_or8r b_or8l b_xor8 b_xor8r b_xor8l b_andNot8 b_andNot8r b_andNot8l b_add8 b_add8r b_add8l b_sub8 b_sub8r b_sub8l b_mul8 b_mul8r b_mul8l b_eql8 b_eql8r b_eql8l b_neq8 b_neq8r b_neq8l b_lss8 b_lss8r b_lss8l b_leq8 b_leq8r b_leq8l b_gtr8 b_gtr8r b_gtr8l b_geq8 b_geq8r b_geq8l b_quo8r b_rem8r b_shl8r b_shr8r b_shl8l b_shr8l u_xor8 g_eql8 g_neq8 g_eql8' g_neq8' one32 st32 cm32 b_and32 b_and32r b_and32l b_or32 b_or32r b_or32l b_xor32 b_xor32r b_xor32l b_andNot32 b_andNot32r b_andNot32l b_add32 b_add32r b_add32l b_sub32 b_sub32r b_sub32l b_mul32 b_mul32r b_mul32l b_eql32 b_eql32r b_eql32l b_neq32 b_neq32r b_neq32l b_lss32 b_lss32r b_lss32l b_leq32 b_leq32r b_leq32l b_gtr32 b_gtr32r b_gtr32l b_geq32 b_geq32r b_geq32l b_quo32r b_rem32r b_shl32r b_shr32r b_shl32l b_shr32l u_xor32 g_eql32 g_neq32 g_eql32' g_neq32' one64 st64 cm64 b_and64 b_and64r b_and64l b_or64 b_or64r b_or64l b_xor64 b_xor64r b_xor64l b_andNot64 b_andNot64r b_andNot64l b_add64 b_add64r b_add64l b_sub64 b_sub64r b_sub64l b_mul64 b_mul64r b_mul64l b_eql64 b_eql64r b_eql64l b_neq64 b_neq64r b_neq64l b_lss64 b_lss64r b_lss64l b_leq64 b_leq64r b_leq64l b_gtr64 b_gtr64r b_gtr64l b_geq64 b_geq64r b_geq64l b_quo64r b_rem64r b_shl64r b_shr64r b_shl64l b_shr64l u_xor64 g_eql64 g_neq64 g_eql64' g_neq64' c_u8_u8 c_u8_u32 c_u8_u64 c_i_u8 c_u32_u8 c_u32_u32 c_u32_u64 c_i_u32 c_u64_u8 c_u64_u32 c_u64_u64 c_i_u64 c_u8_i c_u32_i
attribute [local go_sem ↓] ce8 ce32 ce64
attribute [local go_sem ↓] sliced_slp
theorem bare_drop : ∀ (l : List UInt8), l ≠ [] → l.head? = some 0 → bare l = bare (l.drop 1)
  | [], h, _ => absurd rfl h
  | x :: l, _, h => by
    simp only [List.head?_cons, Option.some.injEq] at h
    subst h
    simp [bare]
theorem bare_stop : ∀ (l : List UInt8) (x : UInt8), l.head? = some x → x ≠ 0 → bare l = l
  | x :: l, y, h, hy => by
    simp only [List.head?_cons, Option.some.injEq] at h
    subst h
    simp [bare, hy]
/-- A list of one byte that has just been made. -/
theorem one_new (w : World) (x : UInt8) : Own (w.alloc (.cells #[V8 x] 5)) w.heap.size (.slice (some ⟨w.heap.size, 0, none⟩) 1 1) [x] :=
  ⟨rfl, .inr ⟨w.heap.size, 1, #[V8 x], rfl, Nat.le_refl _, hp_new _ _ _ rfl, Nat.le_refl _, by decide, rfl, rfl⟩⟩
set_option maxRecDepth 100000 in
theorem short_any (p : Option Addr) (cap : Nat) (l : List UInt8) (w : World) (hr : Rd V8 w p cap l) (hl : l.length ≤ 1048576) :
    Calls Tryd.prog 71 #[.slice p l.length cap] w (CloneB w (short l)) := by
  have HR := Lib.hid hr
  clear hr
  unfold CloneB
  go_enter Tryd.func71, Tryd.ntmps71
  go_wp2
  go_loopw [0] (fun sv wr => ∃ (q : Option Addr) (cq : Nat) (d : List UInt8), sv = .slice q d.length cq ∧ Rd V8 w q cq d ∧ bare d = bare l ∧ d.length ≤ l.length ∧ wr = w) (fun sv _ => match sv with | .slice _ n _ => n | _ => 0)
  case atStart => exact ⟨p, cap, l, rfl, HR.out, rfl, Nat.le_refl _, rfl⟩
  case round =>
    obtain ⟨q, cq, d, rfl, hd, hb, hdl, rfl⟩ := hrel
    have hl0 : d.length ≤ 1048576 := by omega
    by_cases h0 : d = []
    · subst h0
      have HB := Lib.hid hb
      clear hd hb
      go_wp2_with (at_builtin; with_reducible refine froz_app _ _ rfl ?_)
      unfold Froz
      refine wpList_pushAll rfl _ _ rfl wr.heap.size _ [0] (one_new wr 0) rfl q 0 cq [] rfl rfl (Rd.nil _ _ _ _) (by simp) (by simp) ?_
      intro v' w' ho hg
      have HO := Lib.hid ho
      have HG := Lib.hid hg
      clear ho hg
      go_wp2
      go_ret
      refine ⟨_, rfl, by have := HO.out; rw [short, ← HB.out]; exact this, ((Mod.refl _ _).alloc _).of_grown HG.out (fun g hg => .inr ?_)⟩
      injection hg with hg
      simp only at hg
      omega
    · obtain ⟨x, hx0⟩ : ∃ x, d[0]? = some x := by
        cases d with
        | nil => exact absurd rfl h0
        | cons x r => exact ⟨x, rfl⟩
      have hpos : 0 < d.length := (List.getElem?_eq_some_iff.1 hx0).1
      have hhd : d.head? = some x := by rw [List.head?_eq_getElem?]; exact hx0
      obtain ⟨b, o, rfl, hc⟩ := hd.cell 0 x hx0
      rw [Nat.add_zero] at hc
      by_cases hx : x = 0
      · subst hx
        have hcq : 1 ≤ cq := by have := hd.le; omega
        have hdd := hd.drop 1 (by omega)
        have hbd := (bare_drop d h0 hhd).symm.trans hb
        have hdl2 : (d.drop 1).length = d.length - 1 := by simp
        have HDD := Lib.hid hdd
        have HBD := Lib.hid hbd
        have HDL := Lib.hid hdl2
        clear hdd hbd hdl2 hd hb hx0 hhd
        go_wp2_with fail
        go_roundw
        case rel => exact ⟨_, _, d.drop 1, by rw [HDL.out], HDD.out, HBD.out, by rw [HDL.out]; omega, trivial⟩
        case measure => simp; omega
      · have h1 : (x == 0) = false := by simpa using hx
        have HB := Lib.hid ((bare_stop d x hhd hx).symm.trans hb)
        have HD := Lib.hid hd
        clear hd hb hx0 hhd
        go_wp2_with (at_builtin; with_reducible refine froz_app _ _ rfl ?_)
        unfold Froz
        refine wpList_pushAll rfl _ _ rfl wr.heap.size _ [UInt8.ofNat d.length] (one_new wr _) rfl (some ⟨b, o, none⟩) d.length cq d rfl rfl (HD.out.mod0 ((Mod.refl [] wr).alloc _)) (by simp; omega) (by simp) ?_
        intro v' w' ho hg
        have HO := Lib.hid ho
        have HG := Lib.hid hg
        clear ho hg
        go_wp2
        go_ret
        refine ⟨_, rfl, by have := HO.out; rw [short, ← HB.out]; exact this, ((Mod.refl _ _).alloc _).of_grown HG.out (fun g hg => .inr ?_)⟩
        injection hg with hg
        simp only at hg
        omega
theorem be8_at (n k : Nat) (hk : k < 8) : ((be8 n).map V8)[k]? = some (.int .u8 ((n : Int) / 2 ^ (56 - 8 * k) % 256)) := by
  unfold be8
  rw [List.map_map, List.getElem?_map, List.getElem?_range hk]
  simp only [Option.map_some, Function.comp, Option.some.injEq]
  unfold V8
  rw [UInt8.toNat_ofNat', Nat.shiftRight_eq_div_pow]
  congr 1
set_option maxRecDepth 100000 in
theorem form_any (n : Nat) (w : World) (hn : n < 9223372036854775808) :
    Calls Tryd.prog 70 #[.int .i64 n] w (CloneB w (form n)) := by
  have HS := Lib.hid (fun (w1 : World) (hr : Rd V8 w1 (some ⟨w.heap.size, 0, none⟩) 8 (be8 n)) => short_any (some ⟨w.heap.size, 0, none⟩) 8 (be8 n) w1 hr (by rw [be8_length]; omega))
  rw [be8_length] at HS
  go_enter Tryd.func70, Tryd.ntmps70
  go_wp2_with fail
  go_loopw [5] (fun iv wr => ∃ k : Nat, k ≤ 8 ∧ iv = .int .i64 k ∧ wr.heap[w.heap.size]? = some (.cells (((be8 n).map V8).take k ++ (List.replicate 8 (V8 0)).drop k).toArray 137 (0, 0)) ∧ Mod [] w wr) (fun iv _ => 8 - (intOf iv).toNat)
  case atStart => exact ⟨0, by omega, rfl, hp_new _ _ _ rfl, (Mod.refl [] w).alloc _⟩
  case round =>
    obtain ⟨k, hk, rfl, hb, hm⟩ := hrel
    have HB := Lib.hid hb
    have HM := Lib.hid hm
    by_cases hlt : k < 8
    · have hc : wr.cell? ⟨w.heap.size, k, none⟩ = some (V8 0) := by
        have hl : (((be8 n).map V8).take k).length = k := by simp [be8_length]; omega
        rw [cell_blk hb, List.getElem?_toArray, List.getElem?_append_right (by omega), hl, Nat.sub_self, List.getElem?_drop, Nat.add_zero, List.getElem?_replicate, if_pos hlt]
      have hf : wr.frozen? ⟨w.heap.size, k, none⟩ = false := frozen_blk hb k
      have hv := be8_at n k hlt
      have HSC := Lib.hid (hp_sc (j := k) (v := .int .u8 ((n : Int) / 2 ^ (56 - 8 * k) % 256)) hb)
      have HX := Lib.hid (set_mix ((be8 n).map V8) (List.replicate 8 (V8 0)) k _ hv (by simp [be8_length]))
      clear hb hm hv
      go_wp2_with fail
      go_roundw
      case rel => exact ⟨k + 1, by omega, by go_num, by have := HSC.out; rw [List.setIfInBounds_toArray, HX.out] at this; exact this, HM.out.setCell (.inr (Nat.le_refl _)) _⟩
      case measure => simp [intOf]; omega
    · obtain rfl : k = 8 := by omega
      have hr : Rd V8 wr (some ⟨w.heap.size, 0, none⟩) 8 (be8 n) := by
        have e : ((be8 n).map V8).take 8 ++ (List.replicate 8 (V8 0)).drop 8 = (be8 n).map V8 := by
          rw [List.take_of_length_le (by simp [be8_length]), List.drop_of_length_le (by simp), List.append_nil]
        rw [e] at hb
        exact Rd.of_blk hb (fun j v hv => by simpa using hv) (by rw [be8_length]; omega)
      have HSS := Lib.hid (HS.out wr hr)
      clear hb hm hr
      go_wp2_with fail
      refine HSS.out.mono ?_
      rintro e w5 ⟨v, rfl, ho, m5⟩
      have HO := Lib.hid (ho.mono HM.out.size)
      have HM5 := Lib.hid (HM.out.trans0 m5)
      clear ho m5
      go_wp2_with fail
      go_ret
      exact ⟨_, rfl, HO.out, HM5.out⟩
end Go.Proofs.YtmdgefiojapogaaDoor
