/- Check of the program's tree. Conditions: the three tables lie in their variables; fewer than 2^42 bytes a leaf. -/
import Derived.Test.YtbbobpjcbnfpfaaDoorTrShown
namespace Go.Proofs.YtbbobpjcbnfpfaaDoor
open Go.RowKit
attribute [local go_sem high] one8 st8 cm8 b_and8 b_and8r b_and8l b_or8 b_or8r b_or8l b_xor8 b_xor8r b_xor8l b_andNot8 b_andNot8r b_andNot8l b_add8 b_add8r b_add8l b_sub8 b_sub8r b_sub8l b_mul8 b_mul8r b_mul8l b_eql8 b_eql8r b_eql8l b_neq8 b_neq8r b_neq8l b_lss8 b_lss8r b_lss8l b_leq8 b_leq8r b_leq8l b_gtr8 b_gtr8r b_gtr8l b_geq8 b_geq8r b_geq8l b_quo8r b_rem8r b_shl8r b_shr8r b_shl8l b_shr8l u_xor8 g_eql8 g_neq8 g_eql8' g_neq8' one32 st32 cm32 b_and32 b_and32r b_and32l b_or32 b_or32r b_or32l b_xor32 b_xor32r b_xor32l b_andNot32 b_andNot32r b_andNot32l b_add32 b_add32r b_add32l b_sub32 b_sub32r b_sub32l b_mul32 b_mul32r b_mul32l b_eql32 b_eql32r b_eql32l b_neq32 b_neq32r b_neq32l b_lss32 b_lss32r b_lss32l b_leq32 b_leq32r b_leq32l b_gtr32 b_gtr32r b_gtr32l b_geq32 b_geq32r b_geq32l b_quo32r b_rem32r b_shl32r b_shr32r b_shl32l b_shr32l u_xor32 g_eql32 g_neq32 g_eql32' g_neq32' one64 st64 cm64 b_and64 b_and64r b_and64l b_or64 b_or64r b_or64l b_xor64 b_xor64r b_xor64l b_andNot64 b_andNot64r b_andNot64l b_add64 b_add64r b_add64l b_sub64 b_sub64r b_sub64l b_mul64 b_mul64r b_mul64l b_eql64 b_eql64r b_eql64l b_neq64 b_neq64r b_neq64l b_lss64 b_lss64r b_lss64l b_leq64 b_leq64r b_leq64l b_gtr64 b_gtr64r b_gtr64l b_geq64 b_geq64r b_geq64l b_quo64r b_rem64r b_shl64r b_shr64r b_shl64l b_shr64l u_xor64 g_eql64 g_neq64 g_eql64' g_neq64' c_u8_u8 c_u8_u32 c_u8_u64 c_i_u8 c_u32_u8 c_u32_u32 c_u32_u64 c_i_u32 c_u64_u8 c_u64_u32 c_u64_u64 c_i_u64 c_u8_i c_u32_i
attribute [local go_sem ↓] ce8 ce32 ce64
attribute [local go_sem ↓] sliced_slp loadO26 storeO26 buildO24
theorem neqD (w : World) (a b : List UInt8) (ha : a.length = 32) (hb : b.length = 32) : (binOp .neq 24 (dv a) (dv b)).run Tryd.prog w = .ok (.bool (!(a == b))) w := by
  have h := run_equalIn_bytes (P := Tryd.prog) w 9998 24 5 32 Tryd.underlying24 Tryd.underlying5 Tryd.sizeOf5 a b ha hb
  change (Op.equalIn _ _ (.agg (a.map V8).toArray) (.agg (b.map V8).toArray)).run _ _ = _ at h
  unfold dv
  rw [run_neq_struct, h]; rfl
/-- What Check answers. -/
def checkE (hf : Bs → Bs) (root : Bs) (size i : Int) (leaf : Bs) (path : List Bs) : Int :=
  if size < 1 ∨ 1099511627776 < size then 40
  else if i < 0 ∨ size ≤ i then 41
  else if shownH hf size.toNat i.toNat (leafH hf leaf) path = some root then 0 else 43
/-- A whole number is handed back. -/
def NumPost (z : Int) (w : World) (e : Ending) (w' : World) : Prop := e = .returned (.int .i64 z) ∧ Mod [] w w'
set_option maxRecDepth 100000 in
theorem check_size (root : Bs) (size i : Int) (q : Option Addr) (k d : Nat) (p : Option Addr) (n c : Nat) (w : World) (h : size < 1 ∨ 1099511627776 < size) :
    Calls Tryd.prog 32 #[dv root, .int .i64 size, .int .i64 i, .slice q k d, .slice p n c] w (NumPost 40 w) := by
  unfold dv
  by_cases h1 : size < 1
  · go_enter Tryd.func32, Tryd.ntmps32
    go_wp2_with fail
    go_ret
    exact ⟨rfl, (Mod.refl [] w).alloc _⟩
  · have h2 : 1099511627776 < size := by omega
    clear h
    go_enter Tryd.func32, Tryd.ntmps32
    go_wp2_with fail
    go_ret
    exact ⟨rfl, (Mod.refl [] w).alloc _⟩
set_option maxRecDepth 100000 in
theorem check_index (root : Bs) (size i : Int) (q : Option Addr) (k d : Nat) (p : Option Addr) (n c : Nat) (w : World) (h1 : 1 ≤ size) (h2 : size ≤ 1099511627776) (h : i < 0 ∨ size ≤ i) :
    Calls Tryd.prog 32 #[dv root, .int .i64 size, .int .i64 i, .slice q k d, .slice p n c] w (NumPost 41 w) := by
  unfold dv
  by_cases h3 : i < 0
  · clear h
    go_enter Tryd.func32, Tryd.ntmps32
    go_wp2_with fail
    go_ret
    exact ⟨rfl, (Mod.refl [] w).alloc _⟩
  · have h4 : size ≤ i := by omega
    clear h
    go_enter Tryd.func32, Tryd.ntmps32
    go_wp2_with fail
    go_ret
    exact ⟨rfl, (Mod.refl [] w).alloc _⟩
set_option maxRecDepth 100000 in
theorem check_long (root : Bs) (size i : Int) (q : Option Addr) (k d : Nat) (p : Option Addr) (n c : Nat) (w : World) (h1 : 1 ≤ size) (h2 : size ≤ 1099511627776) (h3 : 0 ≤ i) (h4 : i < size) (h : 64 < n) :
    Calls Tryd.prog 32 #[dv root, .int .i64 size, .int .i64 i, .slice q k d, .slice p n c] w (NumPost 43 w) := by
  unfold dv
  go_enter Tryd.func32, Tryd.ntmps32
  go_wp2_with fail
  go_ret
  exact ⟨rfl, (Mod.refl [] w).alloc _⟩
set_option maxRecDepth 100000 in
theorem check_go {hf : Bs → Bs} (root : Bs) (size i : Nat) (leaf : Bs) (q : Option Addr) (k d : Nat) (path : List Bs) (p : Option Addr) (n c : Nat) (w : World) (h1 : 1 ≤ size) (h2 : size ≤ 1099511627776) (h4 : i < size) (h : n ≤ 64)
    (hk : k = leaf.length) (hq : Rd V8 w q d leaf) (hl : leaf.length ≤ 4398046511104) (hn : n = path.length) (hr : RdD w p c path) (ap : All32 path) (hroot : root.length = 32) (H : Hs hf w) :
    Calls Tryd.prog 32 #[dv root, .int .i64 size, .int .i64 i, .slice q k d, .slice p n c] w (NumPost (if shownH hf size i (leafH hf leaf) path = some root then 0 else 43) w) := by
  have HA := Lib.hid (fun (W : World) (m : Mod [] w W) => leaf_any q d k leaf W hk (hq.mod0 m) (H.mod0 m) hl)
  have HB := Lib.hid (fun (W : World) (m : Mod [] w W) => shown_any size size i (leafH hf leaf) path p c n W (Nat.le_refl _) h1 h2 (by omega) (H.len _) ap hn (by omega) (hr.mod0 m) (H.mod0 m))
  generalize shownH hf size i (leafH hf leaf) path = O at HB ⊢
  have HR := Lib.hid hroot
  obtain ⟨Z, hZ⟩ : ∃ Z : Int, Z = if O = some root then 0 else 43 := ⟨_, rfl⟩
  rw [← hZ]
  have HZ := Lib.hid hZ
  clear hZ hk hq hn hr ap hroot H
  unfold dv
  go_enter Tryd.func32, Tryd.ntmps32
  go_wp2_with fail
  refine (HA.out _ ((Mod.refl [] w).alloc _)).mono ?_
  rintro e w1 ⟨rfl, m1⟩
  have M1 := Lib.hid (((Mod.refl [] w).alloc (.cells (root.map V8).toArray 24)).trans0 m1)
  have HB1 := Lib.hid (m1.get0 (hp_new w (.cells (root.map V8).toArray 24) _ rfl))
  clear m1
  go_wp2_with fail
  refine (HB.out _ M1.out).mono ?_
  rintro e w2 ⟨_, rfl, t, ok, rfl, htl, hO, m2⟩
  have hS := storeNewD w2 t htl
  have M2 := Lib.hid ((M1.out.trans0 m2).alloc (.cells (t.map V8).toArray 24))
  have hL1 := loadDv t htl (hp_new w2 (.cells (t.map V8).toArray 24) _ rfl)
  have hL2 := loadDv root HR.out (hp_old (o := .cells (t.map V8).toArray 24) (m2.get0 HB1.out))
  have hE := fun w => neqD w t root htl HR.out
  have hG := eqGuardD
  have HO := Lib.hid hO
  clear m2 htl hO
  cases ok
  · go_wp2_with fail
    go_ret
    refine ⟨?_, M2.out⟩
    rw [HZ.out, HO.out]; rfl
  · by_cases ht : t = root
    · have hb : (t == root) = true := by simp [ht]
      have HT := Lib.hid ht
      clear ht
      go_wp2_with fail
      go_ret
      refine ⟨?_, M2.out⟩
      rw [HZ.out, HO.out, if_pos (by simp [HT.out])]; rfl
    · have hb : (t == root) = false := by simp [ht]
      have HT := Lib.hid ht
      clear ht
      go_wp2_with fail
      go_ret
      refine ⟨?_, M2.out⟩
      rw [HZ.out, HO.out, if_neg (by simp [HT.out])]; rfl
theorem check_any {hf : Bs → Bs} (root : Bs) (size i : Int) (leaf : Bs) (q : Option Addr) (k d : Nat) (path : List Bs) (p : Option Addr) (n c : Nat) (w : World)
    (hk : k = leaf.length) (hq : Rd V8 w q d leaf) (hl : leaf.length ≤ 4398046511104) (hn : n = path.length) (hr : RdD w p c path) (ap : All32 path) (hroot : root.length = 32) (H : Hs hf w) :
    Calls Tryd.prog 32 #[dv root, .int .i64 size, .int .i64 i, .slice q k d, .slice p n c] w (NumPost (checkE hf root size i leaf path) w) := by
  unfold checkE
  by_cases h1 : size < 1 ∨ 1099511627776 < size
  · rw [if_pos h1]; exact check_size root size i q k d p n c w h1
  rw [if_neg h1]
  by_cases h2 : i < 0 ∨ size ≤ i
  · rw [if_pos h2]; exact check_index root size i q k d p n c w (by omega) (by omega) h2
  rw [if_neg h2]
  obtain ⟨s, rfl⟩ : ∃ s : Nat, size = s := ⟨size.toNat, by omega⟩
  obtain ⟨j, rfl⟩ : ∃ j : Nat, i = j := ⟨i.toNat, by omega⟩
  rw [Int.toNat_natCast, Int.toNat_natCast]
  by_cases h3 : 64 < n
  · have h40 := sides_length 40 s j (by omega)
    rw [shownH_eq, if_neg (show ¬ path.length = (sides s j).length by omega), if_neg (by simp)]
    exact check_long root s j q k d p n c w (by omega) (by omega) (by omega) (by omega) h3
  · exact check_go root s j leaf q k d path p n c w (by omega) (by omega) (by omega) (by omega) hk hq hl hn hr ap hroot H
end Go.Proofs.YtbbobpjcbnfpfaaDoor
