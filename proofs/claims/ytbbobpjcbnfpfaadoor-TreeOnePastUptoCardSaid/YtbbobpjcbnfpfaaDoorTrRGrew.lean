/- Grew of the reference. Conditions: as TrComes. -/
import Derived.Test.YtbbobpjcbnfpfaaDoorTrComes
import Derived.Test.YtbbobpjcbnfpfaaDoorTrGrew
namespace Go.Proofs.YtbbobpjcbnfpfaaDoor
open Go.RowKit
attribute [local go_sem high] one8 st8 cm8 b_and8 b_and8r b_and8l b_or8 b_or8r b_or8l b_xor8 b_xor8r b_xor8l b_andNot8 b_andNot8r b_andNot8l b_add8 b_add8r b_add8l b_sub8 b_sub8r b_sub8l b_mul8 b_mul8r b_mul8l b_eql8 b_eql8r b_eql8l b_neq8 b_neq8r b_neq8l b_lss8 b_lss8r b_lss8l b_leq8 b_leq8r b_leq8l b_gtr8 b_gtr8r b_gtr8l b_geq8 b_geq8r b_geq8l b_quo8r b_rem8r b_shl8r b_shr8r b_shl8l b_shr8l u_xor8 g_eql8 g_neq8 g_eql8' g_neq8' one32 st32 cm32 b_and32 b_and32r b_and32l b_or32 b_or32r b_or32l b_xor32 b_xor32r b_xor32l b_andNot32 b_andNot32r b_andNot32l b_add32 b_add32r b_add32l b_sub32 b_sub32r b_sub32l b_mul32 b_mul32r b_mul32l b_eql32 b_eql32r b_eql32l b_neq32 b_neq32r b_neq32l b_lss32 b_lss32r b_lss32l b_leq32 b_leq32r b_leq32l b_gtr32 b_gtr32r b_gtr32l b_geq32 b_geq32r b_geq32l b_quo32r b_rem32r b_shl32r b_shr32r b_shl32l b_shr32l u_xor32 g_eql32 g_neq32 g_eql32' g_neq32' one64 st64 cm64 b_and64 b_and64r b_and64l b_or64 b_or64r b_or64l b_xor64 b_xor64r b_xor64l b_andNot64 b_andNot64r b_andNot64l b_add64 b_add64r b_add64l b_sub64 b_sub64r b_sub64l b_mul64 b_mul64r b_mul64l b_eql64 b_eql64r b_eql64l b_neq64 b_neq64r b_neq64l b_lss64 b_lss64r b_lss64l b_leq64 b_leq64r b_leq64l b_gtr64 b_gtr64r b_gtr64l b_geq64 b_geq64r b_geq64l b_quo64r b_rem64r b_shl64r b_shr64r b_shl64l b_shr64l u_xor64 g_eql64 g_neq64 g_eql64' g_neq64' c_u8_u8 c_u8_u32 c_u8_u64 c_i_u8 c_u32_u8 c_u32_u32 c_u32_u64 c_i_u32 c_u64_u8 c_u64_u32 c_u64_u64 c_i_u64 c_u8_i c_u32_i
attribute [local go_sem ↓] ce8 ce32 ce64
attribute [local go_sem ↓] sliced_slp loadO26 storeO26 loadO110 storeO110 buildO110
set_option maxRecDepth 100000 in
theorem rgrew_size (was root : Bs) (old size : Int) (p : Option Addr) (n c : Nat) (w : World) (h : size < 0 ∨ 1099511627776 < size ∨ old < 0 ∨ size < old) :
    Calls Tryd.prog 44 #[dv was, .int .i64 old, dv root, .int .i64 size, .slice p n c] w (NumPost 40 w) := by
  unfold dv
  by_cases h1 : size < 0
  · clear h
    go_enter Tryd.func44, Tryd.ntmps44
    go_wp2_with fail
    go_ret
    exact ⟨rfl, ((Mod.refl [] w).alloc _).alloc _⟩
  by_cases h2 : 1099511627776 < size
  · clear h
    go_enter Tryd.func44, Tryd.ntmps44
    go_wp2_with fail
    go_ret
    exact ⟨rfl, ((Mod.refl [] w).alloc _).alloc _⟩
  have f1 : (0 : Int) ≤ size := by omega
  have f2 : size ≤ 1099511627776 := by omega
  by_cases h3 : old < 0
  · clear h h1 h2
    go_enter Tryd.func44, Tryd.ntmps44
    go_wp2_with fail
    go_ret
    exact ⟨rfl, ((Mod.refl [] w).alloc _).alloc _⟩
  · have f3 : (0 : Int) ≤ old := by omega
    have f4 : size < old := by omega
    clear h h1 h2 h3
    go_enter Tryd.func44, Tryd.ntmps44
    go_wp2_with fail
    go_ret
    exact ⟨rfl, ((Mod.refl [] w).alloc _).alloc _⟩
set_option maxRecDepth 100000 in
theorem rgrew_len (was root : Bs) (old size : Nat) (p : Option Addr) (n c : Nat) (w : World) (h1 : 1 ≤ old) (h2 : old ≤ size) (h3 : size ≤ 1099511627776) (h : n ≠ long old size true) (hn : n ≤ 9223372036854775807) :
    Calls Tryd.prog 44 #[dv was, .int .i64 old, dv root, .int .i64 size, .slice p n c] w (NumPost 43 w) := by
  have HA := Lib.hid (fun W => rlong_any size old size true W (Nat.le_refl _) h1 h2 h3)
  generalize long old size true = L at *
  have f1 : (0 : Int) ≤ (size : Int) := by omega
  have f2 : (size : Int) ≤ 1099511627776 := by omega
  have f3 : (0 : Int) ≤ (old : Int) := by omega
  have f4 : (old : Int) ≤ (size : Int) := by omega
  have f5 : (0 : Int) < (old : Int) := by omega
  have e1 : decide ((n : Int) = (L : Int)) = false := by simp; omega
  have e2 : ((n : Int) == (L : Int)) = false := by simp; omega
  have e3 : (n == L) = false := by simp; omega
  have e4 : ((n : Int) != (L : Int)) = true := by simp; omega
  unfold dv
  go_enter Tryd.func44, Tryd.ntmps44
  go_wp2_with fail
  refine (HA.out _).mono ?_
  rintro e w2 ⟨rfl, rfl⟩
  go_wp2_with fail
  go_ret
  exact ⟨rfl, ((Mod.refl [] w).alloc _).alloc _⟩
set_option maxRecDepth 100000 in
theorem rgrew_zero_path (was root : Bs) (size : Nat) (p : Option Addr) (n c : Nat) (w : World) (h3 : size ≤ 1099511627776) (h : 0 < n) :
    Calls Tryd.prog 44 #[dv was, .int .i64 0, dv root, .int .i64 size, .slice p n c] w (NumPost 43 w) := by
  have f1 : (0 : Int) ≤ (size : Int) := by omega
  have f2 : (size : Int) ≤ 1099511627776 := by omega
  have e1 : decide ((n : Int) = 0) = false := by simp; omega
  have e4 : ((n : Int) != 0) = true := by simp; omega
  have e5 : (n == 0) = false := by simp; omega
  unfold dv
  go_enter Tryd.func44, Tryd.ntmps44
  go_wp2_with fail
  go_ret
  exact ⟨rfl, ((Mod.refl [] w).alloc _).alloc _⟩
set_option maxRecDepth 100000 in
theorem rgrew_zero {hf : Bs → Bs} (was root : Bs) (size : Nat) (p : Option Addr) (c : Nat) (w : World) (h3 : size ≤ 1099511627776) (hw : was.length = 32) (hr : root.length = 32) (H : Hs hf w) (R : Rf w) (E : Int) (hE : E = if was ≠ hf [] ∨ ((size : Int) = 0 ∧ root ≠ hf []) then 43 else 0) :
    Calls Tryd.prog 44 #[dv was, .int .i64 0, dv root, .int .i64 size, .slice p 0 c] w (NumPost E w) := by
  have hZ32 := H.len []
  have HNO := Lib.hid (fun (W : World) (k : Mod [] w W) => rsum (hf := hf) (H.mod0 k) (R.mod0 k) none 0 0 [] rfl (Rd.nil _ _ _ _) (by simp))
  generalize hf [] = Z at *
  have HW := Lib.hid hw
  have HR := Lib.hid hr
  have HZ := Lib.hid hZ32
  have HEE := Lib.hid hE
  have f1 : (0 : Int) ≤ (size : Int) := by omega
  have f2 : (size : Int) ≤ 1099511627776 := by omega
  have hN1 := fun w => neqD w was Z hw hZ32
  have hN2 := fun w => neqD w root Z hr hZ32
  have hG := eqGuardD
  clear H R hE hw hr hZ32
  unfold dv
  go_enter Tryd.func44, Tryd.ntmps44
  go_wp2_with fail
  refine (HNO.out _ (((Mod.refl [] w).alloc _).alloc _)).mono ?_
  rintro e w1 ⟨rfl, m1⟩
  have hS := storeNewD w1 Z HZ.out
  have lz := loadDv Z HZ.out (hp_new w1 (.cells (Z.map V8).toArray 24) _ rfl)
  have lw := loadDv was HW.out (hp_old (o := .cells (Z.map V8).toArray 24) (m1.get0 (hp_old (hp_new w (.cells (was.map V8).toArray 24) _ rfl))))
  have lr := loadDv root HR.out (hp_old (o := .cells (Z.map V8).toArray 24) (m1.get0 (hp_new _ (.cells (root.map V8).toArray 24) (w.heap.size + 1) (by simp))))
  have HEND := Lib.hid (((((Mod.refl [] w).alloc _).alloc _).trans0 m1).alloc (.cells (Z.map V8).toArray 24))
  clear m1
  by_cases hwz : was = Z
  · have hb : (was == Z) = true := by simp [hwz]
    by_cases hs0 : size = 0
    · subst hs0
      by_cases hrw : root = Z
      · have hb2 : (root == Z) = true := by simp [hrw]
        have HE0 := Lib.hid (show E = 0 from by rw [HEE.out, if_neg (by simp [hwz, hrw])])
        clear hwz hrw
        go_wp2_with fail
        go_ret
        exact ⟨by rw [HE0.out]; rfl, HEND.out⟩
      · have hb2 : (root == Z) = false := by simp [hrw]
        have HE0 := Lib.hid (show E = 43 from by rw [HEE.out, if_pos (.inr ⟨rfl, hrw⟩)])
        clear hwz hrw
        go_wp2_with fail
        go_ret
        exact ⟨by rw [HE0.out]; rfl, HEND.out⟩
    · have e0 : decide ((size : Int) = 0) = false := by simp; omega
      have e00 : ((size : Int) == 0) = false := by simp; omega
      have e01 : decide (size = 0) = false := by simp; omega
      have HE0 := Lib.hid (show E = 0 from by rw [HEE.out, if_neg (by rintro (h | h); exact h hwz; omega)])
      clear hwz
      go_wp2_with fail
      go_ret
      exact ⟨by rw [HE0.out]; rfl, HEND.out⟩
  · have hb : (was == Z) = false := by simp [hwz]
    have HE0 := Lib.hid (show E = 43 from by rw [HEE.out, if_pos (.inl hwz)])
    clear hwz
    go_wp2_with fail
    go_ret
    exact ⟨by rw [HE0.out]; rfl, HEND.out⟩
end Go.Proofs.YtbbobpjcbnfpfaaDoor
namespace Go.Proofs.YtbbobpjcbnfpfaaDoor
open Go.RowKit
attribute [local go_sem high] one8 st8 cm8 b_and8 b_and8r b_and8l b_or8 b_or8r b_or8l b_xor8 b_xor8r b_xor8l b_andNot8 b_andNot8r b_andNot8l b_add8 b_add8r b_add8l b_sub8 b_sub8r b_sub8l b_mul8 b_mul8r b_mul8l b_eql8 b_eql8r b_eql8l b_neq8 b_neq8r b_neq8l b_lss8 b_lss8r b_lss8l b_leq8 b_leq8r b_leq8l b_gtr8 b_gtr8r b_gtr8l b_geq8 b_geq8r b_geq8l b_quo8r b_rem8r b_shl8r b_shr8r b_shl8l b_shr8l u_xor8 g_eql8 g_neq8 g_eql8' g_neq8' one32 st32 cm32 b_and32 b_and32r b_and32l b_or32 b_or32r b_or32l b_xor32 b_xor32r b_xor32l b_andNot32 b_andNot32r b_andNot32l b_add32 b_add32r b_add32l b_sub32 b_sub32r b_sub32l b_mul32 b_mul32r b_mul32l b_eql32 b_eql32r b_eql32l b_neq32 b_neq32r b_neq32l b_lss32 b_lss32r b_lss32l b_leq32 b_leq32r b_leq32l b_gtr32 b_gtr32r b_gtr32l b_geq32 b_geq32r b_geq32l b_quo32r b_rem32r b_shl32r b_shr32r b_shl32l b_shr32l u_xor32 g_eql32 g_neq32 g_eql32' g_neq32' one64 st64 cm64 b_and64 b_and64r b_and64l b_or64 b_or64r b_or64l b_xor64 b_xor64r b_xor64l b_andNot64 b_andNot64r b_andNot64l b_add64 b_add64r b_add64l b_sub64 b_sub64r b_sub64l b_mul64 b_mul64r b_mul64l b_eql64 b_eql64r b_eql64l b_neq64 b_neq64r b_neq64l b_lss64 b_lss64r b_lss64l b_leq64 b_leq64r b_leq64l b_gtr64 b_gtr64r b_gtr64l b_geq64 b_geq64r b_geq64l b_quo64r b_rem64r b_shl64r b_shr64r b_shl64l b_shr64l u_xor64 g_eql64 g_neq64 g_eql64' g_neq64' c_u8_u8 c_u8_u32 c_u8_u64 c_i_u8 c_u32_u8 c_u32_u32 c_u32_u64 c_i_u32 c_u64_u8 c_u64_u32 c_u64_u64 c_i_u64 c_u8_i c_u32_i
attribute [local go_sem ↓] ce8 ce32 ce64
attribute [local go_sem ↓] sliced_slp loadO26 storeO26 loadO110 storeO110 buildO110
set_option maxRecDepth 100000 in
set_option maxHeartbeats 1000000 in
theorem rgrew_go {hf : Bs → Bs} (was root : Bs) (old size : Nat) (path : List Bs) (p : Option Addr) (n c : Nat) (w : World) (h1 : 1 ≤ old) (h2 : old ≤ size) (h3 : size ≤ 1099511627776) (hn : n = path.length) (hlg : path.length = long old size true) (hr : RdD w p c path) (ap : All32 path) (hw : was.length = 32) (hroot : root.length = 32) (H : Hs hf w) (R : Rf w) (E : Int)
    (hE : E = if (comesH hf old size true was path).1 = was ∧ (comesH hf old size true was path).2.1 = root then 0 else 43) :
    Calls Tryd.prog 44 #[dv was, .int .i64 old, dv root, .int .i64 size, .slice p n c] w (NumPost E w) := by
  have hZ32 := H.len []
  have HNO := Lib.hid (fun (W : World) (k : Mod [] w W) => rsum (hf := hf) (H.mod0 k) (R.mod0 k) none 0 0 [] rfl (Rd.nil _ _ _ _) (by simp))
  have hcl := comes_length H.len size old true was path hw ap hlg
  have HC := Lib.hid (fun (W : World) (k : Mod [] w W) => comes_any (hf := hf) size old size was true path p c n W (Nat.le_refl _) h1 h2 h3 hw ap hn hlg (hr.mod0 k) (H.mod0 k) (R.mod0 k))
  have HA := Lib.hid (fun W => rlong_any size old size true W (Nat.le_refl _) h1 h2 h3)
  have hnl : n = long old size true := hn.trans hlg
  rw [← hnl] at HA
  generalize hf [] = Z at *
  generalize comesH hf old size true was path = C at *
  obtain ⟨a, b, ts⟩ := C
  simp only at HC hcl hE
  have HW := Lib.hid hw
  have HR := Lib.hid hroot
  have HZ := Lib.hid hZ32
  have HEE := Lib.hid hE
  have f1 : (0 : Int) ≤ (size : Int) := by omega
  have f2 : (size : Int) ≤ 1099511627776 := by omega
  have f3 : (0 : Int) ≤ (old : Int) := by omega
  have f4 : (old : Int) ≤ (size : Int) := by omega
  have f5 : (0 : Int) < (old : Int) := by omega
  have e1 : decide ((old : Int) = 0) = false := by simp; omega
  have e2 : ((old : Int) == 0) = false := by simp; omega
  have e3 : decide (old = 0) = false := by simp; omega
  have e4 : ((n : Int) != (n : Int)) = false := by simp
  have hN1 := fun w => neqD w a was hcl.1 hw
  have hN2 := fun w => neqD w b root hcl.2 hroot
  have hG := eqGuardD
  have HLA := Lib.hid hcl.1
  have HLB := Lib.hid hcl.2
  clear H R hE hw hroot hZ32 hr ap hlg hn hnl hcl
  unfold dv
  go_enter Tryd.func44, Tryd.ntmps44
  go_wp2_with fail
  refine (HA.out _).mono ?_
  rintro e w0 ⟨rfl, rfl⟩
  go_wp2_with fail
  refine (HNO.out _ (((Mod.refl [] w).alloc _).alloc _)).mono ?_
  rintro e w1 ⟨rfl, m1⟩
  have hS := storeNewD w1 Z HZ.out
  have u5 := hp_old (o := .cells (Z.map V8).toArray 24) (m1.get0 (hp_old (hp_new w (.cells (was.map V8).toArray 24) _ rfl)))
  have u7 := hp_old (o := .cells (Z.map V8).toArray 24) (m1.get0 (hp_new _ (.cells (root.map V8).toArray 24) (w.heap.size + 1) (by simp)))
  have lw := loadDv was HW.out u5
  have HU5 := Lib.hid u5
  have HU7 := Lib.hid u7
  have HM1 := Lib.hid (((((Mod.refl [] w).alloc _).alloc _).trans0 m1).alloc (.cells (Z.map V8).toArray 24))
  clear m1 u5 u7
  go_wp2_with fail
  refine (HC.out _ HM1.out).mono ?_
  rintro e w3 ⟨v3, ys, rfl, ht3, m3⟩
  have s5 := lt_of_block (m3.get0 HU5.out)
  have s7 := lt_of_block (m3.get0 HU7.out)
  obtain ⟨b1, b2⟩ := storeCome (hp_new w3 (.cells Tryd.zeroCells110 110) _ rfl) (by kernel_rfl) a b v3 HLA.out HLB.out ht3.one
  have l0 := b2.load0
  have l1 := b2.load1
  have lw2 := loadDv was HW.out (hp_setRow_ne (cs := (comeC a b v3).toArray) (hp_old (o := .cells Tryd.zeroCells110 110) (m3.get0 HU5.out)) (show w.heap.size ≠ w3.heap.size by omega))
  have lr2 := loadDv root HR.out (hp_setRow_ne (cs := (comeC a b v3).toArray) (hp_old (o := .cells Tryd.zeroCells110 110) (m3.get0 HU7.out)) (show w.heap.size + 1 ≠ w3.heap.size by omega))
  have HEND := Lib.hid (((HM1.out.trans0 m3).alloc (.cells Tryd.zeroCells110 110)).setRow (g := w3.heap.size) (.inr (by have := (HM1.out.trans0 m3).size; omega)) (comeC a b v3).toArray)
  clear m3 ht3 b2 s5 s7 lw hS
  by_cases haw : a = was
  · have hb : (a == was) = true := by simp [haw]
    by_cases hbr : b = root
    · have hb2 : (b == root) = true := by simp [hbr]
      have HE0 := Lib.hid (show E = 0 from by rw [HEE.out, if_pos ⟨haw, hbr⟩])
      clear haw hbr
      go_wp2_with fail
      go_ret
      exact ⟨by rw [HE0.out]; rfl, HEND.out⟩
    · have hb2 : (b == root) = false := by simp [hbr]
      have HE0 := Lib.hid (show E = 43 from by rw [HEE.out, if_neg (fun h => hbr h.2)])
      clear haw hbr
      go_wp2_with fail
      go_ret
      exact ⟨by rw [HE0.out]; rfl, HEND.out⟩
  · have hb : (a == was) = false := by simp [haw]
    have HE0 := Lib.hid (show E = 43 from by rw [HEE.out, if_neg (fun h => haw h.1)])
    clear haw
    go_wp2_with fail
    go_ret
    exact ⟨by rw [HE0.out]; rfl, HEND.out⟩
theorem rgrew_any {hf : Bs → Bs} (was root : Bs) (old size : Int) (path : List Bs) (p : Option Addr) (n c : Nat) (w : World) (hn : n = path.length) (hn9 : n ≤ 9223372036854775807) (hr : RdD w p c path) (ap : All32 path) (hw : was.length = 32) (hroot : root.length = 32) (H : Hs hf w) (R : Rf w) :
    Calls Tryd.prog 44 #[dv was, .int .i64 old, dv root, .int .i64 size, .slice p n c] w (NumPost (grewE hf was old root size path) w) := by
  unfold grewE
  by_cases hb : size < 0 ∨ 1099511627776 < size ∨ old < 0 ∨ size < old
  · rw [if_pos hb]; exact rgrew_size was root old size p n c w hb
  rw [if_neg hb]
  obtain ⟨s, rfl⟩ : ∃ s : Nat, size = s := ⟨size.toNat, by omega⟩
  obtain ⟨o, rfl⟩ : ∃ o : Nat, old = o := ⟨old.toNat, by omega⟩
  rw [Int.toNat_natCast, Int.toNat_natCast]
  have hs : s ≤ 1099511627776 := by omega
  have hos : o ≤ s := by omega
  by_cases h0 : o = 0
  · subst h0
    rw [if_pos (show ((0 : Nat) : Int) = 0 from rfl)]
    by_cases hp : path = []
    · subst hp
      obtain rfl : n = 0 := by simpa using hn
      refine rgrew_zero was root s p c w hs hw hroot H R _ ?_
      simp
    · have : 0 < path.length := List.length_pos_iff.2 hp
      rw [if_pos (.inl hp)]
      exact rgrew_zero_path was root s p n c w hs (by omega)
  · rw [if_neg (by omega)]
    have ho1 : 1 ≤ o := by omega
    rw [grownH_eq]
    by_cases hl : path.length = long o s true
    · rw [if_pos hl]
      refine rgrew_go was root o s path p n c w ho1 hos hs hn hl hr ap hw hroot H R _ ?_
      simp only [Option.some.injEq, Prod.mk.injEq]
    · rw [if_neg hl, if_neg (by simp)]
      exact rgrew_len was root o s p n c w ho1 hos hs (by rw [hn]; exact hl) hn9
/-- What a growth is looked at with. -/
structure Ps where
  was : Bs
  old : Int
  root : Bs
  size : Int
  pp : Option Addr
  pc : Nat
  path : List Bs
def Ps.cells (x : Ps) : List Value := x.was.map V8 ++ (.int .i64 x.old :: (x.root.map V8 ++ [.int .i64 x.size, .slice x.pp x.path.length x.pc]))
structure Ps.In (W : World) (x : Ps) : Prop where
  was : x.was.length = 32
  root : x.root.length = 32
  o0 : -9223372036854775808 ≤ x.old
  o1 : x.old ≤ 9223372036854775807
  s0 : -9223372036854775808 ≤ x.size
  s1 : x.size ≤ 9223372036854775807
  path : RdD W x.pp x.pc x.path
  p32 : All32 x.path
  lp : x.path.length ≤ 1048576
structure PsBox (w : World) (b : Nat) (x : Ps) : Prop where
  r : (LoadO 24 (.pointer (some ⟨b, 0, none⟩))).run Tryd.prog w = .ok (dv x.was) w
  rg : w.rangeAt b 0 (x.was.map V8)
  q : (LoadO 24 (.pointer (some ⟨b, 33, none⟩))).run Tryd.prog w = .ok (dv x.root) w
  qg : w.rangeAt b 33 (x.root.map V8)
  c32 : w.cell? ⟨b, 32, none⟩ = some (.int .i64 x.old)
  c65 : w.cell? ⟨b, 65, none⟩ = some (.int .i64 x.size)
  c66 : w.cell? ⟨b, 66, none⟩ = some (.slice x.pp x.path.length x.pc)
theorem Ps.box {w : World} {b : Nat} {x : Ps} {t : TypeId} (h : w.heap[b]? = some (.cells x.cells.toArray t)) (hw : x.was.length = 32) (hr : x.root.length = 32) : PsBox w b x := by
  have e1 : (x.was.map V8).length = 32 := by rw [List.length_map, hw]
  have e2 : (x.root.map V8).length = 32 := by rw [List.length_map, hr]
  have g1 : w.rangeAt b 0 (x.was.map V8) := range_blk h 0 _ (fun j v hv => by
    rw [Nat.zero_add, List.getElem?_toArray]
    unfold Ps.cells
    rw [List.getElem?_append_left (List.getElem?_eq_some_iff.1 hv).1]
    exact hv)
  have g2 : w.rangeAt b 33 (x.root.map V8) := range_blk h 33 _ (fun j v hv => by
    rw [List.getElem?_toArray]
    unfold Ps.cells
    rw [List.getElem?_append_right (by omega), e1, show 33 + j - 32 = j + 1 by omega, List.getElem?_cons_succ, List.getElem?_append_left (List.getElem?_eq_some_iff.1 hv).1]
    exact hv)
  refine ⟨loadO_mid g1 Tryd.underlying24 rfl (by rw [e1]; exact info26), g1, loadO_mid g2 Tryd.underlying24 rfl (by rw [e2]; exact info26), g2, ?_, ?_, ?_⟩
  · rw [cell_blk h, List.getElem?_toArray]
    unfold Ps.cells
    rw [List.getElem?_append_right (by omega), e1]; rfl
  · rw [cell_blk h, List.getElem?_toArray]
    unfold Ps.cells
    rw [List.getElem?_append_right (by omega), e1, show 65 - 32 = 32 + 1 by rfl, List.getElem?_cons_succ, List.getElem?_append_right (by omega), e2]; rfl
  · rw [cell_blk h, List.getElem?_toArray]
    unfold Ps.cells
    rw [List.getElem?_append_right (by omega), e1, show 66 - 32 = 33 + 1 by rfl, List.getElem?_cons_succ, List.getElem?_append_right (by omega), e2]; rfl
end Go.Proofs.YtbbobpjcbnfpfaaDoor
