/- DigestBits. Conditions: the three tables lie in their variables; fewer than 2^46 bytes. -/
import Derived.Test.YtmjdfglidfdkaaaDoorLawSums
namespace Go.Proofs.YtmjdfglidfdkaaaDoor
open Go.RowKit
attribute [local go_sem high] one8 st8 cm8 b_and8 b_and8r b_and8l b_or8 b_or8r b_or8l b_xor8 b_xor8r b_xor8l b_andNot8 b_andNot8r b_andNot8l b_add8 b_add8r b_add8l b_sub8 b_sub8r b_sub8l b_mul8 b_mul8r b_mul8l b_eql8 b_eql8r b_eql8l b_neq8 b_neq8r b_neq8l b_lss8 b_lss8r b_lss8l b_leq8 b_leq8r b_leq8l b_gtr8 b_gtr8r b_gtr8l b_geq8 b_geq8r b_geq8l b_quo8r b_rem8r b_shl8r b_shr8r b_shl8l b_shr8l u_xor8 g_eql8 g_neq8 g_eql8' g_neq8' one32 st32 cm32 b_and32 b_and32r b_and32l b_or32 b_or32r b_or32l b_xor32 b_xor32r b_xor32l b_andNot32 b_andNot32r b_andNot32l b_add32 b_add32r b_add32l b_sub32 b_sub32r b_sub32l b_mul32 b_mul32r b_mul32l b_eql32 b_eql32r b_eql32l b_neq32 b_neq32r b_neq32l b_lss32 b_lss32r b_lss32l b_leq32 b_leq32r b_leq32l b_gtr32 b_gtr32r b_gtr32l b_geq32 b_geq32r b_geq32l b_quo32r b_rem32r b_shl32r b_shr32r b_shl32l b_shr32l u_xor32 g_eql32 g_neq32 g_eql32' g_neq32' one64 st64 cm64 b_and64 b_and64r b_and64l b_or64 b_or64r b_or64l b_xor64 b_xor64r b_xor64l b_andNot64 b_andNot64r b_andNot64l b_add64 b_add64r b_add64l b_sub64 b_sub64r b_sub64l b_mul64 b_mul64r b_mul64l b_eql64 b_eql64r b_eql64l b_neq64 b_neq64r b_neq64l b_lss64 b_lss64r b_lss64l b_leq64 b_leq64r b_leq64l b_gtr64 b_gtr64r b_gtr64l b_geq64 b_geq64r b_geq64l b_quo64r b_rem64r b_shl64r b_shr64r b_shl64l b_shr64l u_xor64 g_eql64 g_neq64 g_eql64' g_neq64' c_u8_u8 c_u8_u32 c_u8_u64 c_i_u8 c_u32_u8 c_u32_u32 c_u32_u64 c_i_u32 c_u64_u8 c_u64_u32 c_u64_u64 c_i_u64 c_u8_i c_u32_i
attribute [local go_sem ↓] ce8 ce32 ce64
attribute [local go_sem ↓] loadO26 storeO26
attribute [local irreducible] compress hst laidOf fin refOf bitsOf
theorem bitsOf_length (d : List UInt8) (n : Nat) : (bitsOf d n).length = 32 := by unfold bitsOf; split <;> exact fin_length _ _ _
/-- What both ways to the digest of n bits of d hand back, wherever d lies. -/
structure Bts (w : World) (d : List UInt8) (n : Int) (x : List UInt8) (e : Int) : Prop where
  len : x.length = 32
  eq : (0 ≤ n ∧ n ≤ 8 * (d.length : Int)) → x = bitsOf d n.toNat ∧ e = 0
  go : ∀ (q : Option Addr) (c m : Nat) (w1 : World), m = d.length → Rd V8 w1 q c d → Mod [] w w1 → Calls Tryd.prog 31 #[.slice q m c, .int .i64 n] w1 fun r w' => r = .returned (.tuple #[dv x, .int .i64 e]) ∧ Mod [] w1 w'
  ref : TabR w → TabB w → ∀ (q : Option Addr) (c m : Nat) (w1 : World), m = d.length → Rd V8 w1 q c d → Mod [] w w1 → Calls Tryd.prog 32 #[.slice q m c, .int .i64 n] w1 fun r w' => r = .returned (.tuple #[dv x, .int .i64 e]) ∧ Mod [] w1 w'
theorem bts_of (w : World) (d : List UInt8) (n : Int) (ht : Tab w) (hd : d.length ≤ 70368744177664) (hn : n ≤ 9223372036854775807) : ∃ x e, Bts w d n x e := by
  by_cases h : 0 ≤ n ∧ n ≤ 8 * (d.length : Int)
  · obtain ⟨k, rfl⟩ := Int.eq_ofNat_of_zero_le h.1
    refine ⟨bitsOf d k, 0, bitsOf_length _ _, fun _ => ⟨rfl, rfl⟩, ?_, ?_⟩
    · intro q c m w1 hm hr hmod
      subst hm
      exact bits_yes q c d k w1 hr (Tab.mod hmod ht (by simp)) (Nat.lt_of_lt_of_le ht.lt hmod.size) (by omega) (by omega)
    · intro htr htb q c m w1 hm hr hmod
      subst hm
      exact ref_bits_yes q c d k w1 hr (TabR.mod hmod htr (by simp)) (TabB.mod hmod htb (by simp)) (by omega) hd
  · refine ⟨zeros 32, 11, zeros_length _, fun h' => absurd h' h, ?_, ?_⟩
    · intro q c m w1 hm hr hmod
      subst hm
      exact bits_no q c d n w1 (by omega) hn (by omega)
    · intro _ _ q c m w1 hm hr hmod
      subst hm
      exact ref_bits_no q c d n w1 (by omega) hn hd
set_option maxHeartbeats 1000000 in
theorem bitsLaw_any (p : Option Addr) (cap : Nat) (d : List UInt8) (n : Int) (w : World) (hr : Rd V8 w p cap d) (ht : Tab w) (htr : TabR w) (htb : TabB w) (hd : d.length ≤ 70368744177664) (hn : n ≤ 9223372036854775807) :
    Calls Tryd.prog 7 #[.slice p d.length cap, .int .i64 n] w fun e w' => e = .returned (.bool true) ∧ Mod [] w w' := by
  have HR := Lib.hid hr
  obtain ⟨x, ex, SX⟩ := bts_of w d n ht hd hn
  obtain ⟨y, ey, SY⟩ := bts_of w (otherOf d) n ht (by rw [otherOf_length]; exact hd) hn
  have hx := SX.len
  have hy := SY.len
  have HT := Lib.hid ht
  have RX := Lib.hid (SX.ref htr htb)
  have RY := Lib.hid (SY.ref htr htb)
  clear hr ht htr htb
  go_enter Tryd.func7, Tryd.ntmps7
  go_wp2_with fail
  refine (awake_any w HT.out).mono ?_
  rintro e w1 ⟨rfl, m1⟩
  go_wp2_with fail
  refine (lent_any p cap d w1 (HR.out.mod0 m1) hd).mono ?_
  rintro e w2 ⟨rfl, hg, m2⟩
  obtain ⟨g, hgd⟩ : ∃ g, g = w1.heap.size := ⟨_, rfl⟩
  have hgw := m1.size
  rw [← hgd] at hg hgw ⊢
  have M2 := m1.trans0 m2
  have HG := Lib.hid hg
  clear hgd hg m1 m2
  go_wp2_with fail
  refine (SX.go _ _ _ _ rfl (rd_front HG.out (by omega)) M2).mono ?_
  rintro e w3 ⟨rfl, m3⟩
  have hg3 : g < w3.heap.size := lt_of_block (m3.get0 HG.out)
  have M3 := (M2.trans0 m3).alloc (.cells (x.map V8).toArray 26)
  have HG3 := Lib.hid (hp_old (o := .cells (x.map V8).toArray 26) (m3.get0 HG.out))
  have H3a := Lib.hid (hp_new w3 (.cells (x.map V8).toArray 26) _ rfl)
  have hS := storeNewD w3 x hx
  clear m3 M2 HG
  go_wp2_with fail
  clear hS
  refine (kept_any g (d.length + 80) d p cap d (d.length + 80) rfl rfl _ (rd_whole HG3.out (by simp [marks_length])) (HR.out.mod0 M3) hd).mono ?_
  rintro e w4 ⟨rfl, m4⟩
  have M4 := M3.trans0 m4
  have HG4 := Lib.hid (m4.get0 HG3.out)
  have H4a := Lib.hid (m4.get0 H3a.out)
  clear m4 M3 HG3 H3a
  simp only [beq_self_eq_true]
  go_wp2_with fail
  refine (RX.out _ _ _ _ rfl (HR.out.mod0 M4) M4).mono ?_
  rintro e w5 ⟨rfl, m5⟩
  have hg5 : g < w5.heap.size := lt_of_block (m5.get0 HG4.out)
  have M5 := (M4.trans0 m5).alloc (.cells (x.map V8).toArray 26)
  have HG5 := Lib.hid (hp_old (o := .cells (x.map V8).toArray 26) (m5.get0 HG4.out))
  have H5a := Lib.hid (hp_old (o := .cells (x.map V8).toArray 26) (m5.get0 H4a.out))
  have H5b := Lib.hid (hp_new w5 (.cells (x.map V8).toArray 26) _ rfl)
  have hS := storeNewD w5 x hx
  clear m5 M4 HG4 H4a
  go_wp2_with fail
  clear hS
  refine (other_any p cap d _ (HR.out.mod0 M5) hd).mono ?_
  rintro e w6 ⟨rfl, hO, m6⟩
  have HO := Lib.hid hO
  have M6 := M5.trans0 m6
  have HG6 := Lib.hid (m6.get0 HG5.out)
  have H6a := Lib.hid (m6.get0 H5a.out)
  have H6b := Lib.hid (m6.get0 H5b.out)
  clear hO m6 M5 HG5 H5a H5b
  go_wp2_with (with_reducible refine froz_copy _ _ rfl ?_)
  unfold Froz
  have hol := otherOf_length d
  rw [alloc_hs] at HO
  refine wpList_copy8 rfl _ _ rfl g 0 (d.length + 80) (d.length + 80) _ d.length d.length (otherOf d) (d ++ marks 80) rfl rfl HG6.out (rd_whole HO.out (by omega)) hol.symm (by simp [marks_length]) ?_
  have e1 : (d ++ marks 80).take 0 ++ ((otherOf d).take (d.length + 80) ++ (d ++ marks 80).drop (0 + min (otherOf d).length (d.length + 80))) = otherOf d ++ marks 80 := by
    rw [List.take_zero, List.nil_append, List.take_of_length_le (by omega), show 0 + min (otherOf d).length (d.length + 80) = d.length by omega, List.drop_left' rfl]
  rw [e1]
  obtain ⟨W, hW⟩ : ∃ W, W = w6.setRow g ((otherOf d ++ marks 80).map V8).toArray := ⟨_, rfl⟩
  rw [← hW]
  have M7 : Mod [] w W := by rw [hW]; exact M6.setRow (.inr hgw) _
  have HG7 := Lib.hid (show W.heap[g]? = some (.cells ((otherOf d ++ marks 80).map V8).toArray 5) by rw [hW]; exact hp_setRow HG6.out)
  have H7a := Lib.hid (show W.heap[w3.heap.size]? = some (.cells (x.map V8).toArray 26) by rw [hW]; exact hp_setRow_ne H6a.out (by omega))
  have H7b := Lib.hid (show W.heap[w5.heap.size]? = some (.cells (x.map V8).toArray 26) by rw [hW]; exact hp_setRow_ne H6b.out (by omega))
  clear hW e1 H6a H6b HG6 M6 HO
  go_wp2_with fail
  refine (SY.go _ _ _ _ hol.symm (rd_front HG7.out (by omega)) M7).mono ?_
  rintro e w8 ⟨rfl, m8⟩
  have M8 := (M7.trans0 m8).alloc (.cells (y.map V8).toArray 26)
  have H8a := Lib.hid (hp_old (o := .cells (y.map V8).toArray 26) (m8.get0 H7a.out))
  have H8b := Lib.hid (hp_old (o := .cells (y.map V8).toArray 26) (m8.get0 H7b.out))
  have H8c := Lib.hid (hp_new w8 (.cells (y.map V8).toArray 26) _ rfl)
  have hS := storeNewD w8 y hy
  clear m8 M7 H7a H7b HG7
  go_wp2_with fail
  clear hS
  refine (other_any p cap d _ (HR.out.mod0 M8) hd).mono ?_
  rintro e wa ⟨rfl, hO, ma⟩
  rw [alloc_hs] at hO
  have HO := Lib.hid hO
  have MA := M8.trans0 ma
  have HAa := Lib.hid (ma.get0 H8a.out)
  have HAb := Lib.hid (ma.get0 H8b.out)
  have HAc := Lib.hid (ma.get0 H8c.out)
  clear hO ma M8 H8a H8b H8c
  go_wp2_with fail
  refine (RY.out _ _ _ _ hol.symm (rd_whole HO.out (by omega)) MA).mono ?_
  rintro e wb ⟨rfl, mb⟩
  have hS := storeNewD wb y hy
  have MB := (MA.trans0 mb).alloc (.cells (y.map V8).toArray 26)
  have hLa := loadDv x hx (hp_old (o := .cells (y.map V8).toArray 26) (mb.get0 HAa.out))
  have hLb := loadDv x hx (hp_old (o := .cells (y.map V8).toArray 26) (mb.get0 HAb.out))
  have hLc := loadDv y hy (hp_old (o := .cells (y.map V8).toArray 26) (mb.get0 HAc.out))
  have hLd := loadDv y hy (hp_new wb (.cells (y.map V8).toArray 26) _ rfl)
  have hE := fun w => eqD w x x hx hx
  have hE2 := fun w => eqD w y y hy hy
  have hG := eqGuardD
  clear hx hy
  go_wp2_with fail
  go_ret
  exact ⟨rfl, MB⟩
end Go.Proofs.YtmjdfglidfdkaaaDoor
