/- The library's bits.Len at this program; the tree's half. Condition: a number from 2 to 2^62. -/
import Derived.Shelf.Small.Bits
import Derived.Test.YtbbobpjcbnfpfaaDoorTrPure
import Derived.Test.YtbbobpjcbnfpfaaDoorRows
import Derived.Test.YtbbobpjcbnfpfaaDoorTrFns
namespace Go.Proofs.YtbbobpjcbnfpfaaDoor
open Go.Shelf Go.RowKit
attribute [local go_sem high] one8 st8 cm8 b_and8 b_and8r b_and8l b_or8 b_or8r b_or8l b_xor8 b_xor8r b_xor8l b_andNot8 b_andNot8r b_andNot8l b_add8 b_add8r b_add8l b_sub8 b_sub8r b_sub8l b_mul8 b_mul8r b_mul8l b_eql8 b_eql8r b_eql8l b_neq8 b_neq8r b_neq8l b_lss8 b_lss8r b_lss8l b_leq8 b_leq8r b_leq8l b_gtr8 b_gtr8r b_gtr8l b_geq8 b_geq8r b_geq8l b_quo8r b_rem8r b_shl8r b_shr8r b_shl8l b_shr8l u_xor8 g_eql8 g_neq8 g_eql8' g_neq8' one32 st32 cm32 b_and32 b_and32r b_and32l b_or32 b_or32r b_or32l b_xor32 b_xor32r b_xor32l b_andNot32 b_andNot32r b_andNot32l b_add32 b_add32r b_add32l b_sub32 b_sub32r b_sub32l b_mul32 b_mul32r b_mul32l b_eql32 b_eql32r b_eql32l b_neq32 b_neq32r b_neq32l b_lss32 b_lss32r b_lss32l b_leq32 b_leq32r b_leq32l b_gtr32 b_gtr32r b_gtr32l b_geq32 b_geq32r b_geq32l b_quo32r b_rem32r b_shl32r b_shr32r b_shl32l b_shr32l u_xor32 g_eql32 g_neq32 g_eql32' g_neq32' one64 st64 cm64 b_and64 b_and64r b_and64l b_or64 b_or64r b_or64l b_xor64 b_xor64r b_xor64l b_andNot64 b_andNot64r b_andNot64l b_add64 b_add64r b_add64l b_sub64 b_sub64r b_sub64l b_mul64 b_mul64r b_mul64l b_eql64 b_eql64r b_eql64l b_neq64 b_neq64r b_neq64l b_lss64 b_lss64r b_lss64l b_leq64 b_leq64r b_leq64l b_gtr64 b_gtr64r b_gtr64l b_geq64 b_geq64r b_geq64l b_quo64r b_rem64r b_shl64r b_shr64r b_shl64l b_shr64l u_xor64 g_eql64 g_neq64 g_eql64' g_neq64' c_u8_u8 c_u8_u32 c_u8_u64 c_i_u8 c_u32_u8 c_u32_u32 c_u32_u64 c_i_u32 c_u64_u8 c_u64_u32 c_u64_u64 c_i_u64 c_u8_i c_u32_i
attribute [local go_sem ↓] ce8 ce32 ce64
/-- The shelf's numbers, in this program. -/
def lenRen : Ren where
  f := fun x => match x with
    | 125 => 81
    | 128 => 91
    | 129 => 92
    | n => n
  t := fun x => match x with
    | 3 => 3
    | 4 => 4
    | 5 => 5
    | 9 => 9
    | 46 => 115
    | 51 => 119
    | 53 => 130
    | n => n
  g := fun x => x
theorem lenLays : Lays.n125 Tryd.prog lenRen where
  mixed := rfl
  f125 := Tryd.func81
  f128 := Tryd.func91
  f129 := Tryd.func92
  t3 := Tryd.underlying3
  a3 := Tryd.isAgg3
  z3 := Tryd.sizeOf3
  v3 := Tryd.zeroValue3
  t4 := Tryd.underlying4
  a4 := Tryd.isAgg4
  z4 := Tryd.sizeOf4
  v4 := Tryd.zeroValue4
  t5 := Tryd.underlying5
  a5 := Tryd.isAgg5
  z5 := Tryd.sizeOf5
  v5 := Tryd.zeroValue5
  t9 := Tryd.underlying9
  a9 := Tryd.isAgg9
  z9 := Tryd.sizeOf9
  v9 := Tryd.zeroValue9
  t46 := Tryd.underlying115
  a46 := Tryd.isAgg115
  z46 := Tryd.sizeOf115
  v46 := Tryd.zeroValue115
  t51 := Tryd.underlying119
  a51 := Tryd.isAgg119
  z51 := Tryd.sizeOf119
  v51 := Tryd.zeroValue119
  t53 := Tryd.underlying130
  a53 := Tryd.isAgg130
  z53 := Tryd.sizeOf130
  v53 := Tryd.zeroValue130
theorem len_bits (x : Int) (w : World) (h0 : 0 ≤ x) (h1 : x ≤ 18446744073709551615) :
    Calls Tryd.prog 81 #[.int .u64 x] w fun e w' => e = .returned (.int .i64 (Lib.bitLen x.toNat)) ∧ w' = w := Any.bits_Len lenLays x w h0 h1
theorem bitLen_log2 (n : Nat) : ∀ f, n < 2 ^ f → n ≠ 0 → Lib.bitLenAux f n = Nat.log2 n + 1 := by
  induction n using Nat.strongRecOn with
  | ind n ih =>
    intro f hf h0
    cases f with
    | zero => simp at hf; omega
    | succ f =>
      rw [Lib.bitLenAux, if_neg h0, Nat.log2_def]
      by_cases h2 : 2 ≤ n
      · rw [if_pos h2, ih (n / 2) (by omega) f (by rw [Nat.pow_succ] at hf; omega) (by omega)]
        omega
      · rw [if_neg h2]
        have : n / 2 = 0 := by omega
        rw [this]
        cases f <;> simp [Lib.bitLenAux]
set_option maxRecDepth 100000 in
theorem half_any (n : Nat) (w : World) (h1 : 1 < n) (h2 : n ≤ 4611686018427387904) :
    Calls Tryd.prog 60 #[.int .i64 n] w fun e w' => e = .returned (.int .i64 (half n)) ∧ w = w' := by
  have hl : Nat.log2 (n - 1) ≤ 61 := by
    have := (Nat.log2_lt (n := n - 1) (k := 62) (by omega)).2 (by omega)
    omega
  have hlen := Lib.hid (fun w => show Calls Tryd.prog 81 #[.int .u64 ((n : Int) - 1)] w fun e w' => e = .returned (.int .i64 ((Nat.log2 (n - 1) : Int) + 1)) ∧ w' = w by
    have h := len_bits ((n : Int) - 1) w (by omega) (by omega)
    rw [show ((n : Int) - 1).toNat = n - 1 by omega, show Lib.bitLen (n - 1) = Nat.log2 (n - 1) + 1 from bitLen_log2 (n - 1) 64 (by omega) (by omega)] at h
    exact h)
  have hh : half n = 2 ^ Nat.log2 (n - 1) := rfl
  have hle : half n ≤ 4611686018427387904 := by have := half_lt n h1; omega
  obtain ⟨L, hL⟩ : ∃ L, L = Nat.log2 (n - 1) := ⟨_, rfl⟩
  rw [← hL] at hl hh hlen
  have HH := Lib.hid hh
  clear hL hh
  go_enter Tryd.func60, Tryd.ntmps60
  go_wp2_with (go_at_call 81; refine (hlen.out _).mono ?_; rintro e w' ⟨rfl, rfl⟩)
  go_ret
  have e : (2 : Int) ^ L = ((half n : Nat) : Int) := by rw [HH.out, Int.natCast_pow]; rfl
  have e2 : wrap64 ((2 : Int) ^ L) = ((half n : Nat) : Int) := by rw [e]; unfold wrap64; omega
  exact ⟨congrArg (fun z => Ending.returned (.int .i64 z)) e2, rfl⟩
end Go.Proofs.YtbbobpjcbnfpfaaDoor
namespace Go.Proofs.YtbbobpjcbnfpfaaDoor
open Go.RowKit
attribute [local go_sem high] one8 st8 cm8 b_and8 b_and8r b_and8l b_or8 b_or8r b_or8l b_xor8 b_xor8r b_xor8l b_andNot8 b_andNot8r b_andNot8l b_add8 b_add8r b_add8l b_sub8 b_sub8r b_sub8l b_mul8 b_mul8r b_mul8l b_eql8 b_eql8r b_eql8l b_neq8 b_neq8r b_neq8l b_lss8 b_lss8r b_lss8l b_leq8 b_leq8r b_leq8l b_gtr8 b_gtr8r b_gtr8l b_geq8 b_geq8r b_geq8l b_quo8r b_rem8r b_shl8r b_shr8r b_shl8l b_shr8l u_xor8 g_eql8 g_neq8 g_eql8' g_neq8' one32 st32 cm32 b_and32 b_and32r b_and32l b_or32 b_or32r b_or32l b_xor32 b_xor32r b_xor32l b_andNot32 b_andNot32r b_andNot32l b_add32 b_add32r b_add32l b_sub32 b_sub32r b_sub32l b_mul32 b_mul32r b_mul32l b_eql32 b_eql32r b_eql32l b_neq32 b_neq32r b_neq32l b_lss32 b_lss32r b_lss32l b_leq32 b_leq32r b_leq32l b_gtr32 b_gtr32r b_gtr32l b_geq32 b_geq32r b_geq32l b_quo32r b_rem32r b_shl32r b_shr32r b_shl32l b_shr32l u_xor32 g_eql32 g_neq32 g_eql32' g_neq32' one64 st64 cm64 b_and64 b_and64r b_and64l b_or64 b_or64r b_or64l b_xor64 b_xor64r b_xor64l b_andNot64 b_andNot64r b_andNot64l b_add64 b_add64r b_add64l b_sub64 b_sub64r b_sub64l b_mul64 b_mul64r b_mul64l b_eql64 b_eql64r b_eql64l b_neq64 b_neq64r b_neq64l b_lss64 b_lss64r b_lss64l b_leq64 b_leq64r b_leq64l b_gtr64 b_gtr64r b_gtr64l b_geq64 b_geq64r b_geq64l b_quo64r b_rem64r b_shl64r b_shr64r b_shl64l b_shr64l u_xor64 g_eql64 g_neq64 g_eql64' g_neq64' c_u8_u8 c_u8_u32 c_u8_u64 c_i_u8 c_u32_u8 c_u32_u32 c_u32_u64 c_i_u32 c_u64_u8 c_u64_u32 c_u64_u64 c_i_u64 c_u8_i c_u32_i
attribute [local go_sem ↓] ce8 ce32 ce64
attribute [local go_sem ↓] sliced_slp loadO26 storeO26
/-- Leaves, wherever they lie. -/
structure Lv (w : World) (p : Option Addr) (c : Nat) (xs : List SlR) : Prop where
  rd : Rd SlR.v w p c xs
  each : ∀ x ∈ xs, Rd V8 w x.p x.cap x.d
  small : ∀ x ∈ xs, x.d.length ≤ 4398046511104
  len : xs.length ≤ 4294967296
namespace Lv
variable {a w : World} {p : Option Addr} {c : Nat} {xs : List SlR}
theorem mod0 (h : Lv a p c xs) (m : Mod [] a w) : Lv w p c xs := ⟨h.rd.mod0 m, fun x hx => (h.each x hx).mod0 m, h.small, h.len⟩
theorem take (h : Lv w p c xs) (k : Nat) : Lv w p c (xs.take k) :=
  ⟨h.rd.take k, fun x hx => h.each x (List.mem_of_mem_take hx), fun x hx => h.small x (List.mem_of_mem_take hx), by have := h.len; rw [List.length_take]; omega⟩
theorem drop (h : Lv w p c xs) (k : Nat) (hk : k ≤ xs.length) : Lv w (slp p k c 1) (c - k) (xs.drop k) :=
  ⟨h.rd.drop k hk, fun x hx => h.each x (List.mem_of_mem_drop hx), fun x hx => h.small x (List.mem_of_mem_drop hx), by have := h.len; rw [List.length_drop]; omega⟩
theorem cell (h : Lv w p c xs) (k : Nat) (x : SlR) (hk : xs[k]? = some x) : ∃ b o, p = some ⟨b, o, none⟩ ∧ w.cell? ⟨b, o + k, none⟩ = some x.v := h.rd.cell k x hk
end Lv
abbrev ds (xs : List SlR) : List Bs := xs.map (·.d)
theorem rootH_len {hf : Bs → Bs} (hl : ∀ d, (hf d).length = 32) (ls : List Bs) : (rootH hf ls).length = 32 := by
  rw [rootH.eq_def]
  split
  · split
    · exact hl _
    · exact hl _
  · exact hl _
theorem callRoot (xs : Array Value) (w : World) : (callFunc 20 xs).run Tryd.prog w = .ok (.enter 20 xs) w := by kernel_rfl
set_option maxRecDepth 100000 in
theorem root_any {hf : Bs → Bs} (N : Nat) : ∀ (xs : List SlR) (p : Option Addr) (c n : Nat) (w : World), n = xs.length → n ≤ N → Lv w p c xs → Hs hf w →
    Calls Tryd.prog 20 #[.slice p n c] w fun e w' => e = .returned (dv (rootH hf (ds xs))) ∧ Mod [] w w' := by
  induction N with
  | zero =>
    intro xs p c n w hn hN h H
    obtain rfl : xs = [] := List.eq_nil_of_length_eq_zero (by omega)
    obtain rfl : n = 0 := hn
    have he : rootH hf (ds []) = hf [] := by rw [rootH.eq_def]; rfl
    rw [he]
    have HH := Lib.hid H
    have HL := Lib.hid (H.len [])
    clear h H he
    go_enter Tryd.func20, Tryd.ntmps20
    go_wp2_with fail
    refine (none_any _ (HH.out.mod0 ((Mod.refl [] w).alloc _))).mono ?_
    rintro e w1 ⟨rfl, m1⟩
    have HRES := Lib.hid (m1.get0 (hp_new w _ _ rfl))
    have hS := storeDv (hf []) HL.out HRES.out rfl
    go_wp2_with fail
    exact bodyPost_ret (results_dv rfl _ _ _ _ HL.out _ rfl (hp_setRow HRES.out)) rfl ⟨rfl, (((Mod.refl [] w).alloc _).trans0 m1).setRow (.inr (Nat.le_refl _)) _⟩
  | succ N ih =>
    intro xs p c n w hn hN h H
    by_cases h0 : n ≤ N
    · exact ih xs p c n w hn h0 h H
    by_cases h1 : n = 1
    · obtain ⟨x, rfl⟩ : ∃ x, xs = [x] := by
        match xs, hn with
        | [], hn => simp at hn; omega
        | [x], _ => exact ⟨x, rfl⟩
        | _ :: _ :: _, hn => simp at hn; omega
      subst h1
      have he : rootH hf (ds [x]) = leafH hf x.d := by rw [rootH.eq_def]; rfl
      rw [he]
      obtain ⟨b, o, rfl, hc⟩ := h.cell 0 x rfl
      have HH := Lib.hid H
      have HL := Lib.hid (H.len (0 :: x.d))
      have HX := Lib.hid (h.each x (by simp))
      have hsm := h.small x (by simp)
      have hcr := fun (X : Obj) => show (w.alloc X).cell? ⟨b, o, none⟩ = some (.slice x.p x.d.length x.cap) by
        rw [World.cell?_of_block (w := w) (Below.heap_alloc w X b (block_lt_of_cell hc))]
        exact hc
      clear hc
      clear h H he hn
      go_enter Tryd.func20, Tryd.ntmps20
      go_wp2_with fail
      refine (leaf_any x.p x.cap _ x.d _ rfl (HX.out.mod0 ((Mod.refl [] w).alloc _)) (HH.out.mod0 ((Mod.refl [] w).alloc _)) hsm).mono ?_
      rintro e w1 ⟨rfl, m1⟩
      have HRES := Lib.hid (m1.get0 (hp_new w _ _ rfl))
      have hS := storeDv (leafH hf x.d) HL.out HRES.out rfl
      go_wp2_with fail
      exact bodyPost_ret (results_dv rfl _ _ _ _ HL.out _ rfl (hp_setRow HRES.out)) rfl ⟨rfl, (((Mod.refl [] w).alloc _).trans0 m1).setRow (.inr (Nat.le_refl _)) _⟩
    · have hl := h.len
      have hn2 : 1 < n := by omega
      have hk := fun W => half_any n W hn2 (by omega)
      obtain ⟨K, hK⟩ : ∃ K, K = half n := ⟨_, rfl⟩
      have hK0 : 0 < K := by rw [hK]; exact half_pos n
      have hK1 : K < n := by rw [hK]; exact half_lt n hn2
      have he : rootH hf (ds xs) = nodeH hf (rootH hf (ds (xs.take K))) (rootH hf (ds (xs.drop K))) := by
        rw [rootH.eq_def, if_neg (by simp; omega), List.length_map, ← hn, ← hK]
        simp only [ds, List.map_take, List.map_drop]
      have HA := Lib.hid (fun (W : World) (m : Mod [] w W) => told (ih (xs.take K) p c K W (by simp; omega) (by omega) ((h.mod0 m).take K) (H.mod0 m)))
      have HB := Lib.hid (fun (W : World) (m : Mod [] w W) => told (ih (xs.drop K) (slp p K c 1) (c - K) (n - K) W (by simp; omega) (by omega) ((h.mod0 m).drop K (by omega)) (H.mod0 m)))
      have hcap : n ≤ c := by have := h.rd.le; omega
      rw [he]
      have hla := rootH_len H.len (ds (xs.take K))
      have hlb := rootH_len H.len (ds (xs.drop K))
      generalize rootH hf (ds (xs.take K)) = A at *
      generalize rootH hf (ds (xs.drop K)) = B at *
      have HH := Lib.hid H
      have HN := Lib.hid (fun (W : World) (m : Mod [] w W) => told (node_any A B hla hlb W (H.mod0 m)))
      have HL := Lib.hid (H.len (1 :: (A ++ B)))
      have e1 : decide ((n : Int) = 0) = false := by simp; omega
      have e2 : decide ((n : Int) = 1) = false := by simp; omega
      have f1 : (0 : Int) ≤ (K : Int) := by omega
      have f2 : (K : Int) ≤ (n : Int) := by omega
      have f3 : (K : Int) ≤ (c : Int) := by omega
      have f4 : (n : Int) ≤ (c : Int) := by omega
      rw [← hK] at hk
      have HK := Lib.hid hk
      clear h H he hn ih hla hlb hK h0 h1 hl hk
      go_enter Tryd.func20, Tryd.ntmps20
      go_wp2_with (go_at_call 60; refine (HK.out _).mono ?_; rintro e w' ⟨rfl, rfl⟩)
      have HRES := Lib.hid (hp_new w (.cells ((zeros 32).map V8).toArray 24) _ rfl)
      have M0 := Lib.hid ((Mod.refl [] w).alloc (.cells ((zeros 32).map V8).toArray 24))
      go_region_law (first
        | (go_simp; go_at_call 20; with_reducible refine (HA.out _ ?_).mono ?_
           · exact M0.out.drew
           rintro _ w1 ⟨_, rfl, rfl, m1⟩
           have M1 := Lib.hid (M0.out.drew.trans0 m1)
           have HRES1 := Lib.hid (m1.get0 (hp_drew HRES.out))
           clear m1)
        | (go_simp; go_at_call 20; with_reducible refine (HB.out _ M1.out).mono ?_
           rintro _ w2 ⟨_, rfl, rfl, m2⟩
           have M2 := Lib.hid (M1.out.trans0 m2)
           have HRES2 := Lib.hid (m2.get0 HRES1.out)
           clear m2)
        | (go_simp; go_at_call 17; with_reducible refine (HN.out _ M2.out).mono ?_
           rintro _ w3 ⟨_, rfl, rfl, m3⟩
           have M3 := Lib.hid (M2.out.trans0 m3)
           have HRES3 := Lib.hid (m3.get0 HRES2.out)
           have hS := storeDv (nodeH hf A B) HL.out HRES3.out (by simp [zeros_length])
           clear m3))
      go_wp2_with fail
      exact bodyPost_ret (results_dv rfl _ _ _ _ HL.out _ rfl (hp_setRow HRES3.out)) rfl ⟨rfl, M3.out.setRow (.inr (Nat.le_refl _)) _⟩
end Go.Proofs.YtbbobpjcbnfpfaaDoor
