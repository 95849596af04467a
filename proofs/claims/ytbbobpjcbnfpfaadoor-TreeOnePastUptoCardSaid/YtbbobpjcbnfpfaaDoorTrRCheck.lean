/- The reference's Check. Conditions: the tables lie in their variables; fewer than 2^42 bytes a leaf. -/
import Derived.Test.YtbbobpjcbnfpfaaDoorTrTexts
namespace Go.Proofs.YtbbobpjcbnfpfaaDoor
open Go.RowKit
attribute [local go_sem high] one8 st8 cm8 b_and8 b_and8r b_and8l b_or8 b_or8r b_or8l b_xor8 b_xor8r b_xor8l b_andNot8 b_andNot8r b_andNot8l b_add8 b_add8r b_add8l b_sub8 b_sub8r b_sub8l b_mul8 b_mul8r b_mul8l b_eql8 b_eql8r b_eql8l b_neq8 b_neq8r b_neq8l b_lss8 b_lss8r b_lss8l b_leq8 b_leq8r b_leq8l b_gtr8 b_gtr8r b_gtr8l b_geq8 b_geq8r b_geq8l b_quo8r b_rem8r b_shl8r b_shr8r b_shl8l b_shr8l u_xor8 g_eql8 g_neq8 g_eql8' g_neq8' one32 st32 cm32 b_and32 b_and32r b_and32l b_or32 b_or32r b_or32l b_xor32 b_xor32r b_xor32l b_andNot32 b_andNot32r b_andNot32l b_add32 b_add32r b_add32l b_sub32 b_sub32r b_sub32l b_mul32 b_mul32r b_mul32l b_eql32 b_eql32r b_eql32l b_neq32 b_neq32r b_neq32l b_lss32 b_lss32r b_lss32l b_leq32 b_leq32r b_leq32l b_gtr32 b_gtr32r b_gtr32l b_geq32 b_geq32r b_geq32l b_quo32r b_rem32r b_shl32r b_shr32r b_shl32l b_shr32l u_xor32 g_eql32 g_neq32 g_eql32' g_neq32' one64 st64 cm64 b_and64 b_and64r b_and64l b_or64 b_or64r b_or64l b_xor64 b_xor64r b_xor64l b_andNot64 b_andNot64r b_andNot64l b_add64 b_add64r b_add64l b_sub64 b_sub64r b_sub64l b_mul64 b_mul64r b_mul64l b_eql64 b_eql64r b_eql64l b_neq64 b_neq64r b_neq64l b_lss64 b_lss64r b_lss64l b_leq64 b_leq64r b_leq64l b_gtr64 b_gtr64r b_gtr64l b_geq64 b_geq64r b_geq64l b_quo64r b_rem64r b_shl64r b_shr64r b_shl64l b_shr64l u_xor64 g_eql64 g_neq64 g_eql64' g_neq64' c_u8_u8 c_u8_u32 c_u8_u64 c_i_u8 c_u32_u8 c_u32_u32 c_u32_u64 c_i_u32 c_u64_u8 c_u64_u32 c_u64_u64 c_i_u64 c_u8_i c_u32_i
attribute [local go_sem ↓] ce8 ce32 ce64
attribute [local go_sem ↓] sliced_slp loadO26 storeO26
set_option maxRecDepth 100000 in
theorem rcheck_size (root : Bs) (size i : Int) (q : Option Addr) (k d : Nat) (p : Option Addr) (n c : Nat) (w : World) (h : size < 1 ∨ 1099511627776 < size) :
    Calls Tryd.prog 34 #[dv root, .int .i64 size, .int .i64 i, .slice q k d, .slice p n c] w (NumPost 40 w) := by
  unfold dv
  by_cases h1 : size < 1
  · go_enter Tryd.func34, Tryd.ntmps34
    go_wp2_with fail
    go_ret
    exact ⟨rfl, (Mod.refl [] w).alloc _⟩
  · have h2 : 1099511627776 < size := by omega
    clear h
    go_enter Tryd.func34, Tryd.ntmps34
    go_wp2_with fail
    go_ret
    exact ⟨rfl, (Mod.refl [] w).alloc _⟩
set_option maxRecDepth 100000 in
theorem rcheck_index (root : Bs) (size i : Int) (q : Option Addr) (k d : Nat) (p : Option Addr) (n c : Nat) (w : World) (h1 : 1 ≤ size) (h2 : size ≤ 1099511627776) (h : i < 0 ∨ size ≤ i) :
    Calls Tryd.prog 34 #[dv root, .int .i64 size, .int .i64 i, .slice q k d, .slice p n c] w (NumPost 41 w) := by
  unfold dv
  by_cases h3 : i < 0
  · clear h
    go_enter Tryd.func34, Tryd.ntmps34
    go_wp2_with fail
    go_ret
    exact ⟨rfl, (Mod.refl [] w).alloc _⟩
  · have h4 : size ≤ i := by omega
    clear h
    go_enter Tryd.func34, Tryd.ntmps34
    go_wp2_with fail
    go_ret
    exact ⟨rfl, (Mod.refl [] w).alloc _⟩
set_option maxRecDepth 100000 in
theorem rcheck_len (root : Bs) (size i : Nat) (q : Option Addr) (k d : Nat) (p : Option Addr) (n c : Nat) (w : World) (h1 : 1 ≤ size) (h2 : size ≤ 1099511627776) (h4 : i < size) (h : n ≠ (sides size i).length) (hn : n ≤ 9223372036854775807) :
    Calls Tryd.prog 34 #[dv root, .int .i64 size, .int .i64 i, .slice q k d, .slice p n c] w (NumPost 43 w) := by
  have HS := Lib.hid (fun W => rsides_any size size i W (Nat.le_refl _) h1 h2 (by omega))
  have hS40 := sides_length 40 size i (by omega)
  generalize sides size i = S at *
  have f1 : (1 : Int) ≤ (size : Int) := by omega
  have f2 : (size : Int) ≤ 1099511627776 := by omega
  have f3 : (0 : Int) ≤ (i : Int) := by omega
  have f4 : (i : Int) < (size : Int) := by omega
  have e1 : decide (n = S.length) = false := by simpa using h
  have e2 : (n == S.length) = false := by simpa using h
  have e3 : ((n : Int) == (S.length : Int)) = false := by simp; omega
  have e4 : decide ((n : Int) = (S.length : Int)) = false := by simp; omega
  clear h
  unfold dv
  go_enter Tryd.func34, Tryd.ntmps34
  go_wp2_with fail
  refine (HS.out _).mono ?_
  rintro e w1 ⟨v, rfl, ho, m1⟩
  obtain ⟨ps, cs, rfl, _⟩ := own_len ho
  have M1 := Lib.hid m1
  clear ho m1
  go_wp2_with fail
  go_ret
  exact ⟨rfl, ((Mod.refl [] w).alloc _).trans0 M1.out⟩
set_option maxRecDepth 100000 in
theorem rcheck_go {hf : Bs → Bs} (root : Bs) (size i : Nat) (leaf : Bs) (q : Option Addr) (k d : Nat) (path : List Bs) (p : Option Addr) (n c : Nat) (w : World) (h1 : 1 ≤ size) (h2 : size ≤ 1099511627776) (h4 : i < size)
    (hk : k = leaf.length) (hq : Rd V8 w q d leaf) (hl : leaf.length ≤ 4398046511104) (hn : n = path.length) (hr : RdD w p c path) (ap : All32 path) (hlen : path.length = (sides size i).length) (hroot : root.length = 32) (H : Hs hf w) (R : Rf w) :
    Calls Tryd.prog 34 #[dv root, .int .i64 size, .int .i64 i, .slice q k d, .slice p n c] w (NumPost (if climb hf (leafH hf leaf) ((sides size i).zip path) = root then 0 else 43) w) := by
  have HS := Lib.hid (fun W => rsides_any size size i W (Nat.le_refl _) h1 h2 (by omega))
  have HT := Lib.hid (fun (W : World) (m : Mod [] w W) => rtexts_any size i leaf q k d path p n c W h1 h2 (by omega) hk (hq.mod0 m) hl hn (hr.mod0 m) ap hlen (H.mod0 m) (R.mod0 m))
  have hsm := textsT_small hf H.len ((sides size i).zip path) (0 :: leaf) 4398046511105 (by simp; omega) (by omega) (fun z hz => ap _ (List.of_mem_zip hz).2)
  have hS40 := sides_length 40 size i (by omega)
  obtain ⟨S, hS⟩ : ∃ S, S = sides size i := ⟨_, rfl⟩
  rw [← hS] at hlen hS40 HS HT hsm ⊢
  have hzl : (S.zip path).length = S.length := by simp; omega
  have hcl : climb hf (leafH hf leaf) (S.zip path) = climb hf (hf (0 :: leaf)) (S.zip path) := rfl
  rw [hcl]
  generalize S.zip path = Zp at *
  have HSM := Lib.hid hsm
  have HZL := Lib.hid hzl
  have HH := Lib.hid H
  have HRf := Lib.hid R
  have HRT := Lib.hid hroot
  obtain ⟨Z, hZ⟩ : ∃ Z : Int, Z = if climb hf (hf (0 :: leaf)) Zp = root then 0 else 43 := ⟨_, rfl⟩
  rw [← hZ]
  have HZ := Lib.hid hZ
  have f1 : (1 : Int) ≤ (size : Int) := by omega
  have f2 : (size : Int) ≤ 1099511627776 := by omega
  have f3 : (0 : Int) ≤ (i : Int) := by omega
  have f4 : (i : Int) < (size : Int) := by omega
  have hnS : n = S.length := by omega
  subst hnS
  clear hZ hcl hsm hzl hk hq hn hr ap hroot H R hS hlen
  unfold dv
  go_enter Tryd.func34, Tryd.ntmps34
  go_wp2_with fail
  refine (HS.out _).mono ?_
  rintro e w1 ⟨v, rfl, ho, m1⟩
  obtain ⟨ps, cs, rfl, _⟩ := own_len ho
  have M1 := Lib.hid (((Mod.refl [] w).alloc (.cells (root.map V8).toArray 24)).trans0 m1)
  have HB1 := Lib.hid (m1.get0 (hp_new w (.cells (root.map V8).toArray 24) _ rfl))
  clear ho m1
  go_wp2_with fail
  refine (HT.out _ M1.out).mono ?_
  rintro e w2 ⟨v, ys, rfl, ht, m2⟩
  obtain ⟨y, hy, hyc⟩ := textsT_get hf (0 :: leaf) Zp ys ht.is
  have hys : ys.length = S.length + 1 := by
    have := ht.len
    rw [textsT_length, HZL.out] at this
    exact this
  rw [HZL.out] at hy
  obtain ⟨pv, cv, rfl, hlrd, _⟩ := ht.own.rd
  obtain ⟨b1, o1, rfl, hc1⟩ := hlrd.cell S.length y hy
  have hyo := own_rd (ht.each y (List.mem_of_getElem? hy))
  have hysm : y.d.length ≤ 4398046511105 := HSM.out y.d (by rw [← ht.is]; exact List.mem_map.2 ⟨y, List.mem_of_getElem? hy, rfl⟩)
  rw [hys]
  unfold SlR.v at hc1
  have M2 := Lib.hid (M1.out.trans0 m2)
  have HB2 := Lib.hid (m2.get0 HB1.out)
  have HYO := Lib.hid hyo
  have HYC := Lib.hid hyc
  have f5 : ((S.length + 1 : Nat) : Int) - 1 = (S.length : Int) := by omega
  have f6 : (S.length : Int) < ((S.length + 1 : Nat) : Int) := by omega
  clear ht hy hyc hys hlrd hyo m2
  go_wp2_with fail
  refine (rsum (HH.out.mod0 M2.out) (HRf.out.mod0 M2.out) y.p y.cap _ y.d rfl HYO.out (by omega)).mono ?_
  rintro e w3 ⟨rfl, m3⟩
  have htl := HH.out.len y.d
  rw [HYC.out] at htl ⊢
  generalize climb hf (hf (0 :: leaf)) Zp = t at *
  have hS := storeNewD w3 t htl
  have M3 := Lib.hid ((M2.out.trans0 m3).alloc (.cells (t.map V8).toArray 24))
  have hL1 := loadDv t htl (hp_new w3 (.cells (t.map V8).toArray 24) _ rfl)
  have hL2 := loadDv root HRT.out (hp_old (o := .cells (t.map V8).toArray 24) (m3.get0 HB2.out))
  have hE := fun w => neqD w t root htl HRT.out
  have hG := eqGuardD
  clear m3 htl
  by_cases ht : t = root
  · have hb : (t == root) = true := by simp [ht]
    have HT := Lib.hid ht
    clear ht
    go_wp2_with fail
    go_ret
    refine ⟨?_, M3.out⟩
    rw [HZ.out, if_pos HT.out]; rfl
  · have hb : (t == root) = false := by simp [ht]
    have HT := Lib.hid ht
    clear ht
    go_wp2_with fail
    go_ret
    refine ⟨?_, M3.out⟩
    rw [HZ.out, if_neg HT.out]; rfl
theorem rcheck_any {hf : Bs → Bs} (root : Bs) (size i : Int) (leaf : Bs) (q : Option Addr) (k d : Nat) (path : List Bs) (p : Option Addr) (n c : Nat) (w : World)
    (hk : k = leaf.length) (hq : Rd V8 w q d leaf) (hl : leaf.length ≤ 4398046511104) (hn : n = path.length) (hn9 : n ≤ 9223372036854775807) (hr : RdD w p c path) (ap : All32 path) (hroot : root.length = 32) (H : Hs hf w) (R : Rf w) :
    Calls Tryd.prog 34 #[dv root, .int .i64 size, .int .i64 i, .slice q k d, .slice p n c] w (NumPost (checkE hf root size i leaf path) w) := by
  unfold checkE
  by_cases h1 : size < 1 ∨ 1099511627776 < size
  · rw [if_pos h1]; exact rcheck_size root size i q k d p n c w h1
  rw [if_neg h1]
  by_cases h2 : i < 0 ∨ size ≤ i
  · rw [if_pos h2]; exact rcheck_index root size i q k d p n c w (by omega) (by omega) h2
  rw [if_neg h2]
  obtain ⟨s, rfl⟩ : ∃ s : Nat, size = s := ⟨size.toNat, by omega⟩
  obtain ⟨j, rfl⟩ : ∃ j : Nat, i = j := ⟨i.toNat, by omega⟩
  rw [Int.toNat_natCast, Int.toNat_natCast, shownH_eq]
  by_cases h3 : path.length = (sides s j).length
  · rw [if_pos h3]
    have h := rcheck_go root s j leaf q k d path p n c w (by omega) (by omega) (by omega) hk hq hl hn hr ap h3 hroot H R
    have e : (some (climb hf (leafH hf leaf) ((sides s j).zip path)) = some root) = (climb hf (leafH hf leaf) ((sides s j).zip path) = root) := by simp
    simp only [e]
    exact h
  · rw [if_neg h3, if_neg (by simp)]
    exact rcheck_len root s j q k d p n c w (by omega) (by omega) (by omega) (by omega) hn9
end Go.Proofs.YtbbobpjcbnfpfaaDoor
