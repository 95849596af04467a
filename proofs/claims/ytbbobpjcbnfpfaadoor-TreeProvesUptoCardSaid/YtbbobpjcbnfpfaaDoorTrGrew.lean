/- Grew of the program's tree. Conditions: as TrRoot. -/
import Derived.Test.YtbbobpjcbnfpfaaDoorTrGrown
import Derived.Test.YtbbobpjcbnfpfaaDoorTrCheck
namespace Go.Proofs.YtbbobpjcbnfpfaaDoor
open Go.RowKit
attribute [local go_sem high] one8 st8 cm8 b_and8 b_and8r b_and8l b_or8 b_or8r b_or8l b_xor8 b_xor8r b_xor8l b_andNot8 b_andNot8r b_andNot8l b_add8 b_add8r b_add8l b_sub8 b_sub8r b_sub8l b_mul8 b_mul8r b_mul8l b_eql8 b_eql8r b_eql8l b_neq8 b_neq8r b_neq8l b_lss8 b_lss8r b_lss8l b_leq8 b_leq8r b_leq8l b_gtr8 b_gtr8r b_gtr8l b_geq8 b_geq8r b_geq8l b_quo8r b_rem8r b_shl8r b_shr8r b_shl8l b_shr8l u_xor8 g_eql8 g_neq8 g_eql8' g_neq8' one32 st32 cm32 b_and32 b_and32r b_and32l b_or32 b_or32r b_or32l b_xor32 b_xor32r b_xor32l b_andNot32 b_andNot32r b_andNot32l b_add32 b_add32r b_add32l b_sub32 b_sub32r b_sub32l b_mul32 b_mul32r b_mul32l b_eql32 b_eql32r b_eql32l b_neq32 b_neq32r b_neq32l b_lss32 b_lss32r b_lss32l b_leq32 b_leq32r b_leq32l b_gtr32 b_gtr32r b_gtr32l b_geq32 b_geq32r b_geq32l b_quo32r b_rem32r b_shl32r b_shr32r b_shl32l b_shr32l u_xor32 g_eql32 g_neq32 g_eql32' g_neq32' one64 st64 cm64 b_and64 b_and64r b_and64l b_or64 b_or64r b_or64l b_xor64 b_xor64r b_xor64l b_andNot64 b_andNot64r b_andNot64l b_add64 b_add64r b_add64l b_sub64 b_sub64r b_sub64l b_mul64 b_mul64r b_mul64l b_eql64 b_eql64r b_eql64l b_neq64 b_neq64r b_neq64l b_lss64 b_lss64r b_lss64l b_leq64 b_leq64r b_leq64l b_gtr64 b_gtr64r b_gtr64l b_geq64 b_geq64r b_geq64l b_quo64r b_rem64r b_shl64r b_shr64r b_shl64l b_shr64l u_xor64 g_eql64 g_neq64 g_eql64' g_neq64' c_u8_u8 c_u8_u32 c_u8_u64 c_i_u8 c_u32_u8 c_u32_u32 c_u32_u64 c_i_u32 c_u64_u8 c_u64_u32 c_u64_u64 c_i_u64 c_u8_i c_u32_i
attribute [local go_sem ↓] ce8 ce32 ce64
attribute [local go_sem ↓] sliced_slp loadO26 storeO26 buildO24
/-- What Grew answers. -/
def grewE (hf : Bs → Bs) (was : Bs) (old : Int) (root : Bs) (size : Int) (path : List Bs) : Int :=
  if size < 0 ∨ 1099511627776 < size ∨ old < 0 ∨ size < old then 40
  else if old = 0 then (if path ≠ [] ∨ was ≠ hf [] ∨ (size = 0 ∧ root ≠ hf []) then 43 else 0)
  else if grownH hf old.toNat size.toNat was true path = some (was, root) then 0 else 43
set_option maxRecDepth 100000 in
theorem grew_size (was root : Bs) (old size : Int) (p : Option Addr) (n c : Nat) (w : World) (h : size < 0 ∨ 1099511627776 < size ∨ old < 0 ∨ size < old) :
    Calls Tryd.prog 43 #[dv was, .int .i64 old, dv root, .int .i64 size, .slice p n c] w (NumPost 40 w) := by
  unfold dv
  by_cases h1 : size < 0
  · clear h
    go_enter Tryd.func43, Tryd.ntmps43
    go_wp2_with fail
    go_ret
    exact ⟨rfl, ((Mod.refl [] w).alloc _).alloc _⟩
  by_cases h2 : 1099511627776 < size
  · clear h
    go_enter Tryd.func43, Tryd.ntmps43
    go_wp2_with fail
    go_ret
    exact ⟨rfl, ((Mod.refl [] w).alloc _).alloc _⟩
  have f1 : (0 : Int) ≤ size := by omega
  have f2 : size ≤ 1099511627776 := by omega
  by_cases h3 : old < 0
  · clear h h1 h2
    go_enter Tryd.func43, Tryd.ntmps43
    go_wp2_with fail
    go_ret
    exact ⟨rfl, ((Mod.refl [] w).alloc _).alloc _⟩
  · have f3 : (0 : Int) ≤ old := by omega
    have f4 : size < old := by omega
    clear h h1 h2 h3
    go_enter Tryd.func43, Tryd.ntmps43
    go_wp2_with fail
    go_ret
    exact ⟨rfl, ((Mod.refl [] w).alloc _).alloc _⟩
set_option maxRecDepth 100000 in
theorem grew_long (was root : Bs) (old size : Int) (p : Option Addr) (n c : Nat) (w : World) (f1 : (0 : Int) ≤ size) (f2 : size ≤ 1099511627776) (f3 : (0 : Int) ≤ old) (f4 : old ≤ size) (h : 64 < n) :
    Calls Tryd.prog 43 #[dv was, .int .i64 old, dv root, .int .i64 size, .slice p n c] w (NumPost 43 w) := by
  unfold dv
  have f5 : (64 : Int) < (n : Int) := by omega
  clear h
  go_enter Tryd.func43, Tryd.ntmps43
  go_wp2_with fail
  go_ret
  exact ⟨rfl, ((Mod.refl [] w).alloc _).alloc _⟩
set_option maxRecDepth 100000 in
theorem grew_zero_path (was root : Bs) (size : Int) (p : Option Addr) (n c : Nat) (w : World) (f1 : (0 : Int) ≤ size) (f2 : size ≤ 1099511627776) (h0 : 0 < n) (h : n ≤ 64) :
    Calls Tryd.prog 43 #[dv was, .int .i64 0, dv root, .int .i64 size, .slice p n c] w (NumPost 43 w) := by
  unfold dv
  have f5 : (n : Int) ≤ 64 := by omega
  have f6 : (0 : Int) < (n : Int) := by omega
  have e1 : decide (0 < n) = true := by simp; omega
  clear h
  go_enter Tryd.func43, Tryd.ntmps43
  go_wp2_with fail
  go_quiet (fail)
  go_wp2_with fail
  go_ret
  exact ⟨rfl, (((Mod.refl [] w).alloc _).alloc _).drewN _⟩
set_option maxRecDepth 100000 in
set_option maxHeartbeats 4000000 in
theorem grew_zero {hf : Bs → Bs} (was root : Bs) (size : Int) (p : Option Addr) (c : Nat) (w : World) (f1 : (0 : Int) ≤ size) (f2 : size ≤ 1099511627776) (hw : was.length = 32) (hr : root.length = 32) (H : Hs hf w) (E : Int) (hE : E = if was ≠ hf [] ∨ (size = 0 ∧ root ≠ hf []) then 43 else 0) :
    Calls Tryd.prog 43 #[dv was, .int .i64 0, dv root, .int .i64 size, .slice p 0 c] w (NumPost E w) := by
  have hZ32 := H.len []
  have HNO := Lib.hid (fun (W : World) (k : Mod [] w W) => none_any (hf := hf) W (H.mod0 k))
  generalize hf [] = Z at *
  obtain ⟨U, hU⟩ : ∃ U, U = (w.alloc (.cells (was.map V8).toArray 24)).alloc (.cells (root.map V8).toArray 24) := ⟨_, rfl⟩
  have mU : Mod [] w U := by rw [hU]; exact ((Mod.refl [] w).alloc _).alloc _
  have u5 : U.heap[w.heap.size]? = some (.cells (was.map V8).toArray 24) := by rw [hU]; exact hp_old (hp_new w _ _ rfl)
  have u7 : U.heap[w.heap.size + 1]? = some (.cells (root.map V8).toArray 24) := by rw [hU]; exact hp_new _ _ _ (by simp)
  have HLD := Lib.hid (fun (W : World) (k : Mod [] U W) => And.intro (loadDv was hw (k.get0 u5)) (loadDv root hr (k.get0 u7)))
  have HU := Lib.hid hU
  have HMU := Lib.hid mU
  have HZ := Lib.hid hZ32
  have HEE := Lib.hid hE
  obtain ⟨l1, l2⟩ := HLD.out _ (Mod.refl [] U).drew
  have hN := fun w => neqD w was Z hw hZ32
  have hN2 := fun w => neqD w root was hr hw
  have hG := eqGuardD
  have hM := Lib.hid (mU.drew)
  clear hU mU u5 u7 H hE hw hr hZ32
  by_cases hwz : was = Z
  · have hb : (was == Z) = true := by simp [hwz]
    by_cases hs0 : size = 0
    · subst hs0
      by_cases hrw : root = was
      · have hb2 : (root == was) = true := by simp [hrw]
        have HE0 := Lib.hid (show E = 0 from by rw [HEE.out, if_neg (by rw [hrw, hwz]; simp)])
        clear hwz hrw
        unfold dv
        go_enter Tryd.func43, Tryd.ntmps43
        go_wp2_with fail
        rw [← HU.out]
        go_region_law (go_simp; go_at_call 59; with_reducible refine (HNO.out _ hM.out).mono ?_
                       rintro _ w4 ⟨rfl, m4⟩
                       have m5 := (Mod.refl [] U).drew.trans0 m4
                       obtain ⟨c1, c2⟩ := HLD.out _ m5)
        all_goals
          go_wp2_with fail
          go_ret
          exact ⟨by rw [HE0.out]; rfl, HMU.out.trans0 m5⟩
      · have hb2 : (root == was) = false := by simp [hrw]
        have HE0 := Lib.hid (show E = 43 from by rw [HEE.out, if_pos (.inr ⟨rfl, by rw [← hwz]; exact hrw⟩)])
        clear hwz hrw
        unfold dv
        go_enter Tryd.func43, Tryd.ntmps43
        go_wp2_with fail
        rw [← HU.out]
        go_region_law (go_simp; go_at_call 59; with_reducible refine (HNO.out _ hM.out).mono ?_
                       rintro _ w4 ⟨rfl, m4⟩
                       have m5 := (Mod.refl [] U).drew.trans0 m4
                       obtain ⟨c1, c2⟩ := HLD.out _ m5)
        all_goals
          go_wp2_with fail
          go_ret
          exact ⟨by rw [HE0.out]; rfl, HMU.out.trans0 m5⟩
    · have e0 : decide (size = 0) = false := by simp [hs0]
      have e00 : (size == 0) = false := by simp [hs0]
      have HE0 := Lib.hid (show E = 0 from by rw [HEE.out, if_neg (by rintro (h | h); exact h hwz; exact hs0 h.1)])
      clear hwz hs0
      unfold dv
      go_enter Tryd.func43, Tryd.ntmps43
      go_wp2_with fail
      rw [← HU.out]
      go_region_law (go_simp; go_at_call 59; with_reducible refine (HNO.out _ hM.out).mono ?_
                     rintro _ w4 ⟨rfl, m4⟩
                     have m5 := (Mod.refl [] U).drew.trans0 m4
                     obtain ⟨c1, c2⟩ := HLD.out _ m5)
      all_goals
        go_wp2_with fail
        go_ret
        exact ⟨by rw [HE0.out]; rfl, HMU.out.trans0 m5⟩
  · have hb : (was == Z) = false := by simp [hwz]
    have HE0 := Lib.hid (show E = 43 from by rw [HEE.out, if_pos (.inl hwz)])
    clear hwz
    unfold dv
    go_enter Tryd.func43, Tryd.ntmps43
    go_wp2_with fail
    rw [← HU.out]
    have hun : (undef : Value) = .tuple #[] := rfl
    first | (go_region_law ((go_simp; go_at_call 59; with_reducible refine (HNO.out _ hM.out).mono ?_; rintro _ w4 ⟨rfl, m4⟩; have m5 := (Mod.refl [] U).drew.trans0 m4; obtain ⟨c1, c2⟩ := HLD.out _ m5))) | fail
    all_goals
      go_wp2_with fail
      go_ret
      exact ⟨by rw [HE0.out]; rfl, HMU.out.trans0 m5⟩
end Go.Proofs.YtbbobpjcbnfpfaaDoor
namespace Go.Proofs.YtbbobpjcbnfpfaaDoor
open Go.RowKit
attribute [local go_sem high] one8 st8 cm8 b_and8 b_and8r b_and8l b_or8 b_or8r b_or8l b_xor8 b_xor8r b_xor8l b_andNot8 b_andNot8r b_andNot8l b_add8 b_add8r b_add8l b_sub8 b_sub8r b_sub8l b_mul8 b_mul8r b_mul8l b_eql8 b_eql8r b_eql8l b_neq8 b_neq8r b_neq8l b_lss8 b_lss8r b_lss8l b_leq8 b_leq8r b_leq8l b_gtr8 b_gtr8r b_gtr8l b_geq8 b_geq8r b_geq8l b_quo8r b_rem8r b_shl8r b_shr8r b_shl8l b_shr8l u_xor8 g_eql8 g_neq8 g_eql8' g_neq8' one32 st32 cm32 b_and32 b_and32r b_and32l b_or32 b_or32r b_or32l b_xor32 b_xor32r b_xor32l b_andNot32 b_andNot32r b_andNot32l b_add32 b_add32r b_add32l b_sub32 b_sub32r b_sub32l b_mul32 b_mul32r b_mul32l b_eql32 b_eql32r b_eql32l b_neq32 b_neq32r b_neq32l b_lss32 b_lss32r b_lss32l b_leq32 b_leq32r b_leq32l b_gtr32 b_gtr32r b_gtr32l b_geq32 b_geq32r b_geq32l b_quo32r b_rem32r b_shl32r b_shr32r b_shl32l b_shr32l u_xor32 g_eql32 g_neq32 g_eql32' g_neq32' one64 st64 cm64 b_and64 b_and64r b_and64l b_or64 b_or64r b_or64l b_xor64 b_xor64r b_xor64l b_andNot64 b_andNot64r b_andNot64l b_add64 b_add64r b_add64l b_sub64 b_sub64r b_sub64l b_mul64 b_mul64r b_mul64l b_eql64 b_eql64r b_eql64l b_neq64 b_neq64r b_neq64l b_lss64 b_lss64r b_lss64l b_leq64 b_leq64r b_leq64l b_gtr64 b_gtr64r b_gtr64l b_geq64 b_geq64r b_geq64l b_quo64r b_rem64r b_shl64r b_shr64r b_shl64l b_shr64l u_xor64 g_eql64 g_neq64 g_eql64' g_neq64' c_u8_u8 c_u8_u32 c_u8_u64 c_i_u8 c_u32_u8 c_u32_u32 c_u32_u64 c_i_u32 c_u64_u8 c_u64_u32 c_u64_u64 c_i_u64 c_u8_i c_u32_i
attribute [local go_sem ↓] ce8 ce32 ce64
attribute [local go_sem ↓] sliced_slp loadO26 storeO26 buildO24
set_option maxRecDepth 100000 in
set_option maxHeartbeats 1000000 in
theorem grew_go {hf : Bs → Bs} (was root : Bs) (old size : Nat) (path : List Bs) (p : Option Addr) (n c : Nat) (w : World) (h1 : 1 ≤ old) (h2 : old ≤ size) (h3 : size ≤ 1099511627776) (h : n ≤ 64) (hn : n = path.length) (hr : RdD w p c path) (ap : All32 path) (hw : was.length = 32) (hroot : root.length = 32) (H : Hs hf w) :
    Calls Tryd.prog 43 #[dv was, .int .i64 old, dv root, .int .i64 size, .slice p n c] w (NumPost (if grownH hf old size was true path = some (was, root) then 0 else 43) w) := by
  have HA := Lib.hid (fun (W : World) (k : Mod [] w W) => grown_any (hf := hf) size old size was true path p c n W (Nat.le_refl _) h1 h2 h3 hw ap hn (by omega) (hr.mod0 k) (H.mod0 k))
  obtain ⟨O, hO⟩ : ∃ O, O = grownH hf old size was true path := ⟨_, rfl⟩
  rw [← hO] at HA ⊢
  obtain ⟨E, hE⟩ : ∃ E : Int, E = (if O = some (was, root) then 0 else 43) := ⟨_, rfl⟩
  rw [← hE]
  have HEE := Lib.hid hE
  have HW := Lib.hid hw
  have HR := Lib.hid hroot
  have f1 : (0 : Int) ≤ (size : Int) := by omega
  have f2 : (size : Int) ≤ 1099511627776 := by omega
  have f3 : (0 : Int) ≤ (old : Int) := by omega
  have f4 : (old : Int) ≤ (size : Int) := by omega
  have f5 : (n : Int) ≤ 64 := by omega
  have e1 : decide ((old : Int) = 0) = false := by simp; omega
  have e2 : ((old : Int) == 0) = false := by simp; omega
  have e3 : decide (old = 0) = false := by simp; omega
  clear hO hE hw hroot hr ap H hn
  unfold dv
  go_enter Tryd.func43, Tryd.ntmps43
  obtain ⟨U, hU⟩ : ∃ U, U = (w.alloc (.cells (was.map V8).toArray 24)).alloc (.cells (root.map V8).toArray 24) := ⟨_, rfl⟩
  have mU : Mod [] w U := by rw [hU]; exact ((Mod.refl [] w).alloc _).alloc _
  have u5 : U.heap[w.heap.size]? = some (.cells (was.map V8).toArray 24) := by rw [hU]; exact hp_old (hp_new w _ _ rfl)
  have u7 : U.heap[w.heap.size + 1]? = some (.cells (root.map V8).toArray 24) := by rw [hU]; exact hp_new _ _ _ (by simp)
  have l5 := loadDv was HW.out u5
  rw [hU] at l5
  have HU5 := Lib.hid u5
  have HU7 := Lib.hid u7
  have HMU := Lib.hid mU
  have HU := Lib.hid hU
  clear hU mU u5 u7
  go_wp2_with fail
  rw [← HU.out]
  clear l5
  refine (HA.out _ HMU.out).mono ?_
  rintro e w3 ⟨_, rfl, a, b, ok, rfl, hal, hbl, hO, m3⟩
  have hS1 := fun (Z Z2 : Array Value) (hZ : Z.size = 32) => storeDv (w := (w3.alloc (.cells Z 24)).alloc (.cells Z2 24)) a hal (hp_old (hp_new w3 _ _ rfl)) hZ
  have hS2 := fun (Z Z2 : Array Value) (hZ : Z2.size = 32) => storeDv (w := ((w3.alloc (.cells Z 24)).alloc (.cells Z2 24)).setRow w3.heap.size (a.map V8).toArray) b hbl (hp_setRow_ne (hp_new _ _ (w3.heap.size + 1) (by simp)) (by omega)) hZ
  have la := fun (Z Z2 : Array Value) => loadDv a hal (two_vars w3 a b Z Z2).1
  have lb := fun (Z Z2 : Array Value) => loadDv b hbl (two_vars w3 a b Z Z2).2.1
  have lw := fun (Z Z2 : Array Value) => loadDv was HW.out ((m3.trans0 (two_vars w3 a b Z Z2).2.2).get0 HU5.out)
  have lr := fun (Z Z2 : Array Value) => loadDv root HR.out ((m3.trans0 (two_vars w3 a b Z Z2).2.2).get0 HU7.out)
  have HEND := Lib.hid (fun (Z Z2 : Array Value) => (HMU.out.trans0 m3).trans0 (two_vars w3 a b Z Z2).2.2)
  have hN1 := fun w => neqD w a was hal HW.out
  have hN2 := fun w => neqD w b root hbl HR.out
  have hG := eqGuardD
  clear m3 hal hbl
  cases ok
  · have HE0 := Lib.hid (show E = 43 from by rw [HEE.out, hO, if_neg (by simp)])
    clear hO
    go_wp2_with fail
    go_ret
    exact ⟨by rw [HE0.out]; rfl, HEND.out _ _⟩
  · by_cases haw : a = was
    · have hb : (a == was) = true := by simp [haw]
      by_cases hbr : b = root
      · have hb2 : (b == root) = true := by simp [hbr]
        have HE0 := Lib.hid (show E = 0 from by rw [HEE.out, hO, if_pos (by rw [haw, hbr]; rfl)])
        clear hO haw hbr
        go_wp2_with fail
        go_ret
        exact ⟨by rw [HE0.out]; rfl, HEND.out _ _⟩
      · have hb2 : (b == root) = false := by simp [hbr]
        have HE0 := Lib.hid (show E = 43 from by rw [HEE.out, hO, if_neg (by intro hx; simp at hx; exact hbr hx.2)])
        clear hO haw hbr
        go_wp2_with fail
        go_ret
        exact ⟨by rw [HE0.out]; rfl, HEND.out _ _⟩
    · have hb : (a == was) = false := by simp [haw]
      have HE0 := Lib.hid (show E = 43 from by rw [HEE.out, hO, if_neg (by intro hx; simp at hx; exact haw hx.1)])
      clear hO haw
      go_wp2_with fail
      go_ret
      exact ⟨by rw [HE0.out]; rfl, HEND.out _ _⟩
theorem grew_any {hf : Bs → Bs} (was root : Bs) (old size : Int) (path : List Bs) (p : Option Addr) (n c : Nat) (w : World) (hn : n = path.length) (hr : RdD w p c path) (ap : All32 path) (hw : was.length = 32) (hroot : root.length = 32) (H : Hs hf w) :
    Calls Tryd.prog 43 #[dv was, .int .i64 old, dv root, .int .i64 size, .slice p n c] w (NumPost (grewE hf was old root size path) w) := by
  unfold grewE
  by_cases hb : size < 0 ∨ 1099511627776 < size ∨ old < 0 ∨ size < old
  · rw [if_pos hb]; exact grew_size was root old size p n c w hb
  rw [if_neg hb]
  obtain ⟨s, rfl⟩ : ∃ s : Nat, size = s := ⟨size.toNat, by omega⟩
  obtain ⟨o, rfl⟩ : ∃ o : Nat, old = o := ⟨old.toNat, by omega⟩
  rw [Int.toNat_natCast, Int.toNat_natCast]
  by_cases h64 : 64 < n
  · have hlong : (if (o : Int) = 0 then (if path ≠ [] ∨ was ≠ hf [] ∨ ((s : Int) = 0 ∧ root ≠ hf []) then (43 : Int) else 0) else if grownH hf o s was true path = some (was, root) then 0 else 43) = 43 := by
      by_cases h0 : (o : Int) = 0
      · rw [if_pos h0, if_pos (.inl (by rintro rfl; simp at hn; omega))]
      · have h41 := long_le 40 o s true (by omega)
        have hg : grownH hf o s was true path = none := by rw [grownH_eq, if_neg (by omega)]
        rw [if_neg h0, hg, if_neg (by simp)]
    rw [hlong]
    exact grew_long was root o s p n c w (by omega) (by omega) (by omega) (by omega) h64
  · by_cases h0 : o = 0
    · subst h0
      rw [if_pos (show ((0 : Nat) : Int) = 0 from rfl)]
      by_cases hp : path = []
      · subst hp
        obtain rfl : n = 0 := by simpa using hn
        refine grew_zero was root s p c w (by omega) (by omega) hw hroot H _ ?_
        simp
      · have : 0 < path.length := List.length_pos_iff.2 hp
        rw [if_pos (.inl hp)]
        exact grew_zero_path was root s p n c w (by omega) (by omega) (by omega) (by omega)
    · rw [if_neg (by omega)]
      exact grew_go was root o s path p n c w (by omega) (by omega) (by omega) (by omega) hn hr ap hw hroot H
end Go.Proofs.YtbbobpjcbnfpfaaDoor
