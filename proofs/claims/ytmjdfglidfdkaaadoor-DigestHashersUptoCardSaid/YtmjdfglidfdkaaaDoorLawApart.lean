/- pick; DigestApart. Conditions: the table of the steps lies in its variable; fewer than 2^40 bytes. -/
import Derived.Test.YtmjdfglidfdkaaaDoorLawSums
namespace Go.Proofs.YtmjdfglidfdkaaaDoor
open Go.RowKit
attribute [local go_sem high] one8 st8 cm8 b_and8 b_and8r b_and8l b_or8 b_or8r b_or8l b_xor8 b_xor8r b_xor8l b_andNot8 b_andNot8r b_andNot8l b_add8 b_add8r b_add8l b_sub8 b_sub8r b_sub8l b_mul8 b_mul8r b_mul8l b_eql8 b_eql8r b_eql8l b_neq8 b_neq8r b_neq8l b_lss8 b_lss8r b_lss8l b_leq8 b_leq8r b_leq8l b_gtr8 b_gtr8r b_gtr8l b_geq8 b_geq8r b_geq8l b_quo8r b_rem8r b_shl8r b_shr8r b_shl8l b_shr8l u_xor8 g_eql8 g_neq8 g_eql8' g_neq8' one32 st32 cm32 b_and32 b_and32r b_and32l b_or32 b_or32r b_or32l b_xor32 b_xor32r b_xor32l b_andNot32 b_andNot32r b_andNot32l b_add32 b_add32r b_add32l b_sub32 b_sub32r b_sub32l b_mul32 b_mul32r b_mul32l b_eql32 b_eql32r b_eql32l b_neq32 b_neq32r b_neq32l b_lss32 b_lss32r b_lss32l b_leq32 b_leq32r b_leq32l b_gtr32 b_gtr32r b_gtr32l b_geq32 b_geq32r b_geq32l b_quo32r b_rem32r b_shl32r b_shr32r b_shl32l b_shr32l u_xor32 g_eql32 g_neq32 g_eql32' g_neq32' one64 st64 cm64 b_and64 b_and64r b_and64l b_or64 b_or64r b_or64l b_xor64 b_xor64r b_xor64l b_andNot64 b_andNot64r b_andNot64l b_add64 b_add64r b_add64l b_sub64 b_sub64r b_sub64l b_mul64 b_mul64r b_mul64l b_eql64 b_eql64r b_eql64l b_neq64 b_neq64r b_neq64l b_lss64 b_lss64r b_lss64l b_leq64 b_leq64r b_leq64l b_gtr64 b_gtr64r b_gtr64l b_geq64 b_geq64r b_geq64l b_quo64r b_rem64r b_shl64r b_shr64r b_shl64l b_shr64l u_xor64 g_eql64 g_neq64 g_eql64' g_neq64' c_u8_u8 c_u8_u32 c_u8_u64 c_i_u8 c_u32_u8 c_u32_u32 c_u32_u64 c_i_u32 c_u64_u8 c_u64_u32 c_u64_u64 c_i_u64 c_u8_i c_u32_i
attribute [local go_sem ↓] ce8 ce32 ce64
attribute [local go_sem ↓] loadO26 storeO26 sliced_slp
attribute [local irreducible] compress hst laidOf fin refOf
theorem pick_any (c n : Int) (w : World) (h0 : -9223372036854775808 ≤ c) (h1 : c ≤ 9223372036854775807) (hn : 0 < n) (hn1 : n ≤ 9223372036854775807) :
    Calls Tryd.prog 23 #[.int .i64 c, .int .i64 n] w fun e w' => ∃ r : Nat, (r : Int) < n ∧ e = .returned (.int .i64 r) ∧ w' = w := by
  obtain ⟨k, rfl⟩ := Int.eq_ofNat_of_zero_le (show 0 ≤ n by omega)
  by_cases hc : c < 0
  · have h2 : 0 ≤ -(c + 1) := by omega
    obtain ⟨m, hm⟩ := Int.eq_ofNat_of_zero_le h2
    have hm1 : (m : Int) ≤ 9223372036854775807 := by omega
    have hmk : m % k < k := Nat.mod_lt _ (by omega)
    go_enter Tryd.func23, Tryd.ntmps23
    go_wp2_with fail
    go_ret
    exact ⟨m % k, by omega, by simp, rfl⟩
  · obtain ⟨m, rfl⟩ := Int.eq_ofNat_of_zero_le (show 0 ≤ c by omega)
    have hmk : m % k < k := Nat.mod_lt _ (by omega)
    go_enter Tryd.func23, Tryd.ntmps23
    go_wp2_with fail
    go_ret
    exact ⟨m % k, by omega, by simp, rfl⟩
/-- A list read from one place to another. -/
theorem rd_cut {w : World} {p : Option Addr} {cap : Nat} {d : List UInt8} (h : Rd V8 w p cap d) (i j : Nat) (hij : i ≤ j) (hj : j ≤ d.length) : Rd V8 w (slp p i cap 1) (cap - i) ((d.drop i).take (j - i)) := (h.drop i (by omega)).take (j - i)
theorem take_cut (d : List UInt8) (i j : Nat) (hij : i ≤ j) : d.take i ++ (d.drop i).take (j - i) = d.take j := by
  rw [← List.take_add, show i + (j - i) = j by omega]
theorem cut_length (d : List UInt8) (i j : Nat) (hij : i ≤ j) (hj : j ≤ d.length) : ((d.drop i).take (j - i)).length = j - i := by
  rw [List.length_take, List.length_drop]; omega
/-- A Hasher takes in a part of a list. -/
theorem write_cut (g : Nat) (d : List UInt8) (p : Option Addr) (cap i j n : Nat) (w : World) (h : IsHash w g (d.take i)) (hd : Rd V8 w p cap d) (hij : i ≤ j) (hj : j ≤ d.length) (hn : n = j - i) (ho : d ≠ [] → Off p [g]) (ht : Tab w) (hgt : g ≠ 1) (hlen : d.length < 4611686018427387904) :
    Calls Tryd.prog 24 #[.pointer (some ⟨g, 0, none⟩), .slice (slp p i cap 1) n (cap - i)] w fun e w' => e = .returned (.tuple #[]) ∧ IsHash w' g (d.take j) ∧ Mod [g] w w' := by
  have hl := cut_length d i j hij hj
  have h' := write_any g (d.take i) (slp p i cap 1) (cap - i) ((d.drop i).take (j - i)) w h (rd_cut hd i j hij hj) (fun hne => (ho (by rintro rfl; simp at hne)).slp _ _ _) ht hgt (by rw [hl]; simp; omega)
  rw [take_cut d i j hij, hl, ← hn] at h'
  exact h'
/-- A digest as a variable: of a list of bytes wherever it lies, and of a Hasher that has taken it in. -/
structure SumD (d x : List UInt8) : Prop where
  len : x.length = 32
  eq : x = fin d 0 0
  go : ∀ (q : Option Addr) (c n : Nat) (w1 : World), n = d.length → Rd V8 w1 q c d → Tab w1 → Calls Tryd.prog 13 #[.slice q n c] w1 fun e w' => e = .returned (dv x) ∧ Mod [] w1 w'
  hash : ∀ (g : Nat) (w1 : World), IsHash w1 g d → Tab w1 → Calls Tryd.prog 25 #[.pointer (some ⟨g, 0, none⟩)] w1 fun e w' => e = .returned (dv x) ∧ Mod [] w1 w'
theorem sumD_of (d : List UInt8) (hd : d.length < 4611686018427387904) : ∃ x, SumD d x := by
  refine ⟨fin d 0 0, fin_length _ _ _, rfl, ?_, ?_⟩
  · intro q c n w1 hn hr ht
    subst hn
    exact digest_sum q c d w1 hr ht ht.lt hd
  · intro g w1 h ht
    exact sum_any g d w1 h ht
set_option maxHeartbeats 1000000 in
theorem apart_any (p : Option Addr) (cap : Nat) (d : List UInt8) (q : Option Addr) (qap : Nat) (b : List UInt8) (st : Int) (w : World) (hr : Rd V8 w p cap d) (hq : Rd V8 w q qap b) (ht : Tab w) (hd : d.length ≤ 1048576) (hbl : b.length ≤ 1048576) (h0 : -9223372036854775808 ≤ st) (h1 : st ≤ 9223372036854775807) :
    Calls Tryd.prog 5 #[.slice p d.length cap, .slice q b.length qap, .int .i64 st] w fun e w' => e = .returned (.bool true) ∧ Mod [] w w' := by
  have HR := Lib.hid hr
  have HQ := Lib.hid hq
  have HT := Lib.hid ht
  have hlt := ht.lt
  obtain ⟨X, SX⟩ := sumD_of d (by omega)
  obtain ⟨Y, SY⟩ := sumD_of b (by omega)
  obtain ⟨Z, SZ⟩ := sumD_of [] (by simp)
  have hX := SX.len
  have hY := SY.len
  have hZ := SZ.len
  clear hr hq ht
  go_enter Tryd.func5, Tryd.ntmps5
  go_wp2_with fail
  refine (awake_any w HT.out).mono ?_
  rintro e w1 ⟨rfl, m1⟩
  go_wp2_with fail
  refine (new_any w1).mono ?_
  rintro e w2 ⟨g, rfl, hg, hh, m2⟩
  have M2 := m1.trans0 m2
  have HG := Lib.hid hh
  have hgw : w.heap.size ≤ g := by have := m1.size; omega
  have hgs : g < w2.heap.size := by obtain ⟨_, _, _, hb⟩ := hh; exact lt_of_block hb
  clear hh m1 m2 hg
  go_wp2_with fail
  refine (new_any w2).mono ?_
  rintro e w3 ⟨k, rfl, hk, hh, m3⟩
  have M3 := M2.trans0 m3
  have HG3 := Lib.hid (HG.out.mod m3 (by simp))
  have HK3 := Lib.hid hh
  have hkg : g < k := by omega
  clear hh m3 M2 HG hk hgs
  go_wp2_with (go_at_call 23; refine (pick_any _ _ _ h0 h1 (by decide) (by decide)).mono ?_; rintro e w' ⟨s, hs, rfl, rfl⟩)
  obtain ⟨w3, hw3⟩ : ∃ x, x = w' := ⟨w', rfl⟩
  subst hw3
  have hk3 : k < w3.heap.size := by obtain ⟨_, _, _, hb⟩ := HK3.out; exact lt_of_block hb
  go_loopw [11, 12] (fun vi vj wr => ∃ i j : Nat, i ≤ d.length ∧ j ≤ b.length ∧ vi = .int .i64 i ∧ vj = .int .i64 j ∧ IsHash wr g (d.take i) ∧ IsHash wr k (b.take j) ∧ Mod [] w wr ∧ w3.heap.size ≤ wr.heap.size) (fun vi vj _ => (d.length - (intOf vi).toNat) + (b.length - (intOf vj).toNat))
  case atStart => exact ⟨0, 0, by omega, by omega, rfl, rfl, HG3.out, HK3.out, M3, Nat.le_refl _⟩
  case round =>
    clear HG3 HK3 M3
    obtain ⟨i, j, hi, hj, rfl, rfl, hg, hk, hm, hsz⟩ := hrel
    have HG := Lib.hid hg
    have HK := Lib.hid hk
    clear hg hk
    obtain ⟨x, hx⟩ : ∃ x, x = min (i + (1 + s)) d.length := ⟨_, rfl⟩
    obtain ⟨y, hy⟩ : ∃ y, y = min (j + (1 + s) + 1) b.length := ⟨_, rfl⟩
    have hxi : i ≤ x ∧ x ≤ d.length := by omega
    have hyj : j ≤ y ∧ y ≤ b.length := by omega
    have hxz : min ((i : Int) + (1 + (s : Int))) (d.length : Int) = (x : Int) := by omega
    have hyz : min ((j : Int) + (1 + (s : Int)) + 1) (b.length : Int) = (y : Int) := by omega
    have hgrow : (i < d.length ∨ j < b.length) → (i < x ∨ j < y) := by omega
    have HX := Lib.hid hx
    have HY := Lib.hid hy
    clear hx hy
    have hcap := HR.out.le
    have qcap := HQ.out.le
    have hxc : x ≤ cap := by omega
    have hyc : y ≤ qap := by omega
    by_cases hc : i < d.length ∨ j < b.length
    · have hgr := hgrow hc
      clear hgrow
      have WG := Lib.hid (fun n (hn : n = x - i) => write_cut g d p cap i x n wr HG.out (HR.out.mod0 hm) hxi.1 hxi.2 hn (fun hne => HR.out.off hgw hne) (Tab.mod hm HT.out (by simp)) (by omega) (by omega))
      by_cases hci : i < d.length
      · go_wp2_with fail
        refine (WG.out _ rfl).mono ?_
        rintro e w5 ⟨rfl, hg5, m5⟩
        have M5 : Mod [] w w5 := hm.trans m5 (fun z hz => .inr (by simp at hz; omega))
        have HG5 := Lib.hid hg5
        have HK5 := Lib.hid (HK.out.mod m5 (by simp; omega))
        have WK := Lib.hid (fun n (hn : n = y - j) => write_cut k b q qap j y n w5 HK5.out (HQ.out.mod0 M5) hyj.1 hyj.2 hn (fun hne => HQ.out.off (by omega) hne) (Tab.mod M5 HT.out (by simp)) (by omega) (by omega))
        clear hg5
        have hs5 := m5.size
        go_wp2_with fail
        refine (WK.out _ rfl).mono ?_
        rintro e w6 ⟨rfl, hk6, m6⟩
        have HK6 := Lib.hid hk6
        have HG6 := Lib.hid (HG5.out.mod m6 (by simp; omega))
        have M6 : Mod [] w w6 := M5.trans m6 (fun z hz => .inr (by simp at hz; omega))
        have hs6 := m6.size
        clear hk6
        go_wp2_with fail
        go_roundw
        case rel => exact ⟨x, y, hxi.2, hyj.2, rfl, rfl, HG6.out, HK6.out, M6, by omega⟩
        case measure => simp [intOf]; omega
      · have hcj : j < b.length := by omega
        go_wp2_with fail
        refine (WG.out _ rfl).mono ?_
        rintro e w5 ⟨rfl, hg5, m5⟩
        have M5 : Mod [] w w5 := hm.trans m5 (fun z hz => .inr (by simp at hz; omega))
        have HG5 := Lib.hid hg5
        have HK5 := Lib.hid (HK.out.mod m5 (by simp; omega))
        have WK := Lib.hid (fun n (hn : n = y - j) => write_cut k b q qap j y n w5 HK5.out (HQ.out.mod0 M5) hyj.1 hyj.2 hn (fun hne => HQ.out.off (by omega) hne) (Tab.mod M5 HT.out (by simp)) (by omega) (by omega))
        clear hg5
        have hs5 := m5.size
        go_wp2_with fail
        refine (WK.out _ rfl).mono ?_
        rintro e w6 ⟨rfl, hk6, m6⟩
        have HK6 := Lib.hid hk6
        have HG6 := Lib.hid (HG5.out.mod m6 (by simp; omega))
        have M6 : Mod [] w w6 := M5.trans m6 (fun z hz => .inr (by simp at hz; omega))
        have hs6 := m6.size
        clear hk6
        go_wp2_with fail
        go_roundw
        case rel => exact ⟨x, y, hxi.2, hyj.2, rfl, rfl, HG6.out, HK6.out, M6, by omega⟩
        case measure => simp [intOf]; omega
    · have hi' : d.take i = d := List.take_of_length_le (by omega)
      have hj' : b.take j = b := List.take_of_length_le (by omega)
      have hd1 : decide ((i : Int) < (d.length : Int)) = false := by simp; omega
      have hd2 : decide ((j : Int) < (b.length : Int)) = false := by simp; omega
      rw [hi'] at HG
      rw [hj'] at HK
      clear hi' hj'
      have hgk : g ≠ k := by omega
      have hgs : g < wr.heap.size := by omega
      have hks : k < wr.heap.size := by omega
      go_wp2_with fail
      refine (SX.hash g wr HG.out (Tab.mod hm HT.out (by simp))).mono ?_
      rintro e w5 ⟨rfl, m5⟩
      have M5 := (hm.trans0 m5).alloc (.cells (X.map V8).toArray 26)
      have m5' := (m5.alloc (.cells (X.map V8).toArray 26))
      have HG5 := Lib.hid (HG.out.mod m5' (by simp))
      have HK5 := Lib.hid (HK.out.mod m5' (by simp))
      have D5 := Lib.hid (hp_new w5 (.cells (X.map V8).toArray 26) _ rfl)
      have h5 : wr.heap.size ≤ w5.heap.size := m5.size
      have hS := storeNewD w5 X hX
      go_wp2_with fail
      clear hS m5 m5' HG HK
      refine (SY.hash k _ HK5.out (Tab.mod M5 HT.out (by simp))).mono ?_
      rintro e w6 ⟨rfl, m6⟩
      have M6 := (M5.trans0 m6).alloc (.cells (Y.map V8).toArray 26)
      have m6' := (m6.alloc (.cells (Y.map V8).toArray 26))
      have HG6 := Lib.hid (HG5.out.mod m6' (by simp))
      have HK6 := Lib.hid (HK5.out.mod m6' (by simp))
      have D65 := Lib.hid (m6'.get0 D5.out)
      have D66 := Lib.hid (hp_new w6 (.cells (Y.map V8).toArray 26) _ rfl)
      have h6 : w5.heap.size + 1 ≤ w6.heap.size := by have := m6.size; simpa using this
      have hS := storeNewD w6 Y hY
      go_wp2_with fail
      clear hS m6 m6' HG5 HK5 D5 M5
      refine (reset_any k b _ HK6.out).mono ?_
      rintro e w7 ⟨rfl, hk7, m7⟩
      have M7 : Mod [] w w7 := M6.trans m7 (fun z hz => .inr (by simp at hz; omega))
      have HK7 := Lib.hid hk7
      have HG7 := Lib.hid (HG6.out.mod m7 (by simpa using hgk))
      have D75 := Lib.hid (m7.get D65.out (by simp; omega))
      have D76 := Lib.hid (m7.get D66.out (by simp; omega))
      clear hk7 m7 HK6 HG6 D65 D66 M6
      go_wp2_with fail
      refine (SX.hash g _ HG7.out (Tab.mod M7 HT.out (by simp))).mono ?_
      rintro e w8 ⟨rfl, m8⟩
      have M8 := (M7.trans0 m8).alloc (.cells (X.map V8).toArray 26)
      have m8' := (m8.alloc (.cells (X.map V8).toArray 26))
      have HK8 := Lib.hid (HK7.out.mod m8' (by simp))
      have D85 := Lib.hid (m8'.get0 D75.out)
      have D86 := Lib.hid (m8'.get0 D76.out)
      have D88 := Lib.hid (hp_new w8 (.cells (X.map V8).toArray 26) _ rfl)
      have hS := storeNewD w8 X hX
      go_wp2_with fail
      clear hS m8 m8' HK7 HG7 D75 D76 M7
      refine (SZ.hash k _ HK8.out (Tab.mod M8 HT.out (by simp))).mono ?_
      rintro e w9 ⟨rfl, m9⟩
      have M9 := (M8.trans0 m9).alloc (.cells (Z.map V8).toArray 26)
      have m9' := (m9.alloc (.cells (Z.map V8).toArray 26))
      have D95 := Lib.hid (m9'.get0 D85.out)
      have D96 := Lib.hid (m9'.get0 D86.out)
      have D98 := Lib.hid (m9'.get0 D88.out)
      have D99 := Lib.hid (hp_new w9 (.cells (Z.map V8).toArray 26) _ rfl)
      have hS := storeNewD w9 Z hZ
      go_wp2_with fail
      clear hS m9 m9' HK8 D85 D86 D88 M8
      refine (SX.go _ _ _ _ rfl (HR.out.mod0 M9) (Tab.mod M9 HT.out (by simp))).mono ?_
      rintro e wa ⟨rfl, ma⟩
      have MA := (M9.trans0 ma).alloc (.cells (X.map V8).toArray 26)
      have ma' := (ma.alloc (.cells (X.map V8).toArray 26))
      have DA5 := Lib.hid (ma'.get0 D95.out)
      have DA6 := Lib.hid (ma'.get0 D96.out)
      have DA8 := Lib.hid (ma'.get0 D98.out)
      have DA9 := Lib.hid (ma'.get0 D99.out)
      have DAA := Lib.hid (hp_new wa (.cells (X.map V8).toArray 26) _ rfl)
      have hS := storeNewD wa X hX
      go_wp2_with fail
      clear hS ma ma' D95 D96 D98 D99 M9
      refine (SY.go _ _ _ _ rfl (HQ.out.mod0 MA) (Tab.mod MA HT.out (by simp))).mono ?_
      rintro e wb ⟨rfl, mb⟩
      have MB := (MA.trans0 mb).alloc (.cells (Y.map V8).toArray 26)
      have mb' := (mb.alloc (.cells (Y.map V8).toArray 26))
      have DB5 := Lib.hid (mb'.get0 DA5.out)
      have DB6 := Lib.hid (mb'.get0 DA6.out)
      have DB8 := Lib.hid (mb'.get0 DA8.out)
      have DB9 := Lib.hid (mb'.get0 DA9.out)
      have DBA := Lib.hid (mb'.get0 DAA.out)
      have DBB := Lib.hid (hp_new wb (.cells (Y.map V8).toArray 26) _ rfl)
      have hS := storeNewD wb Y hY
      go_wp2_with fail
      clear hS mb mb' DA5 DA6 DA8 DA9 DAA MA
      refine (SZ.go none 0 0 _ rfl ⟨by simp, fun h => absurd rfl h⟩ (Tab.mod MB HT.out (by simp))).mono ?_
      rintro e wc ⟨rfl, mc⟩
      have MC := (MB.trans0 mc).alloc (.cells (Z.map V8).toArray 26)
      have mc' := (mc.alloc (.cells (Z.map V8).toArray 26))
      have L5 := loadDv X hX (mc'.get0 DB5.out)
      have L6 := loadDv Y hY (mc'.get0 DB6.out)
      have L8 := loadDv X hX (mc'.get0 DB8.out)
      have L9 := loadDv Z hZ (mc'.get0 DB9.out)
      have LA := loadDv X hX (mc'.get0 DBA.out)
      have LB := loadDv Y hY (mc'.get0 DBB.out)
      have LC := loadDv Z hZ (hp_new wc (.cells (Z.map V8).toArray 26) _ rfl)
      have hS := storeNewD wc Z hZ
      have hE := fun w => eqD w X X hX hX
      have hE2 := fun w => eqD w Y Y hY hY
      have hE3 := fun w => eqD w Z Z hZ hZ
      have hGd := eqGuardD
      clear hX hY hZ mc mc'
      go_wp2_with fail
      go_ret
      exact ⟨rfl, MC⟩
end Go.Proofs.YtmjdfglidfdkaaaDoor
