/- WireWhole, the walk: true, whatever the input. Condition: at most 2^20 steps. -/
import Derived.Test.YtnmcbdppbpfegaaRsRefused
import Derived.Test.YtnmcbdppbpfegaaWpLaw
namespace Go.Proofs.Ytnmcbdppbpfegaa
open Go.RowKit
attribute [local go_sem high] one8 st8 cm8 b_and8 b_and8r b_and8l b_or8 b_or8r b_or8l b_xor8 b_xor8r b_xor8l b_andNot8 b_andNot8r b_andNot8l b_add8 b_add8r b_add8l b_sub8 b_sub8r b_sub8l b_mul8 b_mul8r b_mul8l b_eql8 b_eql8r b_eql8l b_neq8 b_neq8r b_neq8l b_lss8 b_lss8r b_lss8l b_leq8 b_leq8r b_leq8l b_gtr8 b_gtr8r b_gtr8l b_geq8 b_geq8r b_geq8l b_quo8r b_rem8r b_shl8r b_shr8r b_shl8l b_shr8l u_xor8 g_eql8 g_neq8 g_eql8' g_neq8' one32 st32 cm32 b_and32 b_and32r b_and32l b_or32 b_or32r b_or32l b_xor32 b_xor32r b_xor32l b_andNot32 b_andNot32r b_andNot32l b_add32 b_add32r b_add32l b_sub32 b_sub32r b_sub32l b_mul32 b_mul32r b_mul32l b_eql32 b_eql32r b_eql32l b_neq32 b_neq32r b_neq32l b_lss32 b_lss32r b_lss32l b_leq32 b_leq32r b_leq32l b_gtr32 b_gtr32r b_gtr32l b_geq32 b_geq32r b_geq32l b_quo32r b_rem32r b_shl32r b_shr32r b_shl32l b_shr32l u_xor32 g_eql32 g_neq32 g_eql32' g_neq32' one64 st64 cm64 b_and64 b_and64r b_and64l b_or64 b_or64r b_or64l b_xor64 b_xor64r b_xor64l b_andNot64 b_andNot64r b_andNot64l b_add64 b_add64r b_add64l b_sub64 b_sub64r b_sub64l b_mul64 b_mul64r b_mul64l b_eql64 b_eql64r b_eql64l b_neq64 b_neq64r b_neq64l b_lss64 b_lss64r b_lss64l b_leq64 b_leq64r b_leq64l b_gtr64 b_gtr64r b_gtr64l b_geq64 b_geq64r b_geq64l b_quo64r b_rem64r b_shl64r b_shr64r b_shl64l b_shr64l u_xor64 g_eql64 g_neq64 g_eql64' g_neq64' c_u8_u8 c_u8_u32 c_u8_u64 c_i_u8 c_u32_u8 c_u32_u32 c_u32_u64 c_i_u32 c_u64_u8 c_u64_u32 c_u64_u64 c_i_u64 c_u8_i c_u32_i
attribute [local go_sem ↓] ce8 ce32 ce64
attribute [local go_sem ↓] sliced_slp loadOSt storeOSt
theorem form_len4 : ∀ k, k < 9 → (form (4194300 - k)).length = 4 := by decide
theorem set_last (N : Nat) (b : UInt8) : ((zeros N).map V8).toArray.setIfInBounds (N - 1) (V8 b) = (((zeros N).set (N - 1) b).map V8).toArray := by
  simp [List.map_set]
set_option maxRecDepth 100000 in
set_option maxHeartbeats 1000000 in
theorem whole_law (n : Int) (b : UInt8) (p : Option Addr) (cap : Nat) (xs : List Sp) (w : World) (n0 : -9223372036854775808 ≤ n) (n1 : n ≤ 9223372036854775807) (hr : RdN 8 Sp.cells w p cap xs) (hl : xs.length ≤ 1048576) :
    Calls Try.prog 6 #[.int .i64 n, V8 b, .slice p xs.length cap] w fun e w' => e = .returned (.bool true) ∧ Mod [] w w' := by
  have HK := Lib.hid known_any
  have HR := Lib.hid hr
  have HPK := Lib.hid (fun w1 => pick_any n 9 w1 n0 n1 (by decide) (by decide))
  have hk9 : pk n 9 < 9 := by have := pk_lt n 9 (by decide); omega
  obtain ⟨k, hk⟩ : ∃ k, k = pk n 9 := ⟨_, rfl⟩
  rw [← hk] at HPK hk9
  obtain ⟨N, hN⟩ : ∃ N : Nat, N = 4194304 := ⟨_, rfl⟩
  have hNi : (4194304 : Int) = (N : Int) := by rw [hN]; rfl
  obtain ⟨M, hM⟩ : ∃ M : Nat, M = 4194303 := ⟨_, rfl⟩
  have hNM : N = M + 1 := by rw [hN, hM]
  have hwr : wrap64 ((N : Int) - 1) = (M : Int) := by unfold wrap64; omega
  have hMN : (M : Int) < (N : Int) := by omega
  have hMN2 : M < N := by omega
  have HNM := Lib.hid hNM
  have HN := Lib.hid hN
  have HNI := Lib.hid hNi
  clear hr hk hN hNi hM hNM
  go_enter Try.func6, Try.ntmps6
  go_wp2_with fail
  refine (HK.out _).mono ?_
  rintro e w1 ⟨rfl, m1⟩
  have M1 := Lib.hid m1
  have hba := hp_new w1 (.cells ((zeros N).map V8).toArray 5) _ rfl
  have ca : (w1.alloc (.cells ((zeros N).map V8).toArray 5)).cell? ⟨w1.heap.size, M, none⟩ = some (V8 0) := by
    rw [cell_blk hba, List.getElem?_toArray, List.getElem?_map]
    simp [zeros, hMN2]
  have fa := frozen_blk hba M
  obtain ⟨zl, hzl⟩ : ∃ zl, zl = (zeros N).set M b := ⟨_, rfl⟩
  obtain ⟨W2, hW2⟩ : ∃ W, W = w1.alloc (.cells (((zeros N).map V8).set M (V8 b)).toArray 5) := ⟨_, rfl⟩
  have hzN : zl.length = N := by rw [hzl]; simp [zeros_length]
  have hb2 : W2.heap[w1.heap.size]? = some (.cells (zl.map V8).toArray 5 (0, 0)) := by
    rw [hW2, hzl, List.map_set]; exact hp_new w1 _ _ rfl
  have hm2 : Mod [] w1 W2 := by rw [hW2]; exact (Mod.refl [] w1).alloc _
  have rd2 : Rd V8 W2 (some ⟨w1.heap.size, 0, none⟩) N zl := Rd.of_blk hb2 (fun j v hv => by simpa using hv) (by rw [hzN]; exact Nat.le_refl _)
  have hN1 := newR_any w.heap.size (some ⟨w1.heap.size, 0, none⟩) N zl W2 (Nat.le_trans m1.size hm2.size) rd2 (by rw [hzN, HN.out]; omega)
  rw [hzN, hW2] at hN1
  have HN1 := Lib.hid hN1
  have RD2 := Lib.hid rd2
  have HW2 := Lib.hid hW2
  have HM2 := Lib.hid (m1.trans0 hm2)
  have HZN := Lib.hid hzN
  have HB2 := Lib.hid hb2
  clear m1 hba hzl hW2 hb2 hm2 rd2 hN1 hzN
  go_wp2_with (at_make; refine wpList_make8 rfl _ _ rfl N 4194304 rfl rfl HNI.out (by rw [HN.out]; omega) ?_)
  refine HN1.out.mono ?_
  rintro e w3 ⟨g1, v1, rfl, hg1, hv1, i1, m3⟩
  rw [← HW2.out] at hg1 hv1 m3
  have hn9 : wrap64 (4194305 + (k : Int)) = 4194305 + (k : Int) := by unfold wrap64; omega
  clear ca fa
  have I1 := Lib.hid i1
  have M3 := Lib.hid (HM2.out.trans0 m3)
  have RD3 := Lib.hid (RD2.out.mod0 m3)
  have B3 := Lib.hid (m3.get0 HB2.out)
  clear i1 m3
  go_wp2_with fail
  refine (HPK.out _).mono ?_
  rintro e w4 ⟨rfl, hw4⟩
  subst hw4
  have hN2 := newR_long w.heap.size (some ⟨w3.heap.size, 0, none⟩) (4194305 + k) (4194305 + k) (w3.alloc (.cells ((zeros (4194305 + k)).map V8).toArray 5)) (Nat.le_trans M3.out.size ((Mod.refl [] w3).alloc _).size) (by omega) (by omega)
  have HM4 := Lib.hid ((Mod.refl [] w3).alloc (.cells ((zeros (4194305 + k)).map V8).toArray 5))
  obtain ⟨Z, hZ⟩ : ∃ Z, Z = ((zeros (4194305 + k)).map V8).toArray := ⟨_, rfl⟩
  rw [← hZ] at hN2 HM4
  have HN2 := Lib.hid hN2
  have HZ := Lib.hid hZ
  clear hN2 hZ
  go_wp2_with (at_make; refine wpList_make8 rfl _ _ rfl (4194305 + k) (4194305 + (k : Int)) rfl rfl (by omega) (by omega) ?_; rw [← HZ.out])
  refine HN2.out.mono ?_
  rintro e w5 ⟨g2, v2, rfl, hg2, hv2, i2, m5⟩
  have m5' := HM4.out.trans0 m5
  have HG2 := Lib.hid hg2
  have I2 := Lib.hid i2
  have I1' := Lib.hid (I1.out.mod0 m5')
  have M5 := Lib.hid (M3.out.trans0 m5')
  have RD5 := Lib.hid (RD3.out.mod0 m5')
  have B5 := Lib.hid (m5'.get0 B3.out)
  have B3' := B3
  clear i2 m5 m5' HN2 HM4 I1 M3 RD3 B3 RD2 HN1
  go_wp2_with fail
  refine (err_any _ g1 v1 _ w5 I1'.out).mono ?_
  rintro e w6 ⟨rfl, hw6⟩
  subst hw6
  go_wp2_with fail
  refine (err_any _ g2 v2 _ w6 I2.out).mono ?_
  rintro e w7 ⟨rfl, hw7⟩
  subst hw7
  go_wp2_with fail
  refine (end_any _ g2 v2 _ w7 I2.out).mono ?_
  rintro e w8 ⟨rfl, m8⟩
  rw [show Rr.endErr ⟨[], 0, 30⟩ = 30 from rfl]
  have hgb := I2.out.base
  have hgne : w1.heap.size ≠ g2 := by
    have h1 := lt_of_block B3'.out
    have h2 := HG2.out
    have h3 := ((Mod.refl [] w3).alloc (.cells Z 5)).size
    omega
  have I8 := Lib.hid (I2.out.mod0 m8)
  have M8 := Lib.hid (M5.out.trans0 m8)
  have B8 := Lib.hid (m8.get0 B5.out)
  clear m8 I2 M5 B5 RD5 I1'
  go_wp2_with fail
  go_loopw [11] (fun iv wr => ∃ i : Nat, i ≤ xs.length ∧ iv = .int .i64 i ∧ IsR wr w.heap.size g2 v2 ⟨[], 0, 30⟩ ∧ wr.heap[w1.heap.size]? = some (.cells (zl.map V8).toArray 5 (0, 0)) ∧ Mod [] w wr) (fun iv _ => xs.length - (intOf iv).toNat)
  case atStart => exact ⟨0, by omega, rfl, I8.out, B8.out, M8.out⟩
  case round =>
    obtain ⟨i, hi, rfl, hir, hb, hm⟩ := hrel
    have HI := Lib.hid hir
    have HB := Lib.hid hb
    have HM := Lib.hid hm
    clear hir hb I8 B8 M8
    by_cases hlt : i < xs.length
    · obtain ⟨s, hs⟩ : ∃ s, xs[i]? = some s := ⟨xs[i], List.getElem?_eq_getElem hlt⟩
      obtain ⟨b', o', rfl, hrg⟩ := HR.out.elem Sp.len i s hs
      have hL : (LoadO 48 (.pointer (some ⟨b', o' + i * 8, none⟩))).run Try.prog wr = .ok (spv s) wr := loadO_mid (range_mod hm hrg (by simp)) Try.underlying48 rfl (by rw [s.len]; exact infoSp)
      clear hm hrg hs
      go_wp2_with fail
      refine (refused_any w.heap.size g2 v2 [] 30 wr HI.out (by decide) s).mono ?_
      rintro e w9 ⟨rfl, i9, m9⟩
      have HI9 := Lib.hid i9
      have HB9 := Lib.hid (m9.get HB.out (by simpa using hgne))
      have HM9 := Lib.hid (HM.out.trans m9 (fun x hx => .inr (by simp at hx; omega)))
      clear i9 m9 hL
      go_wp2_with fail
      go_roundw
      case rel => exact ⟨i + 1, by omega, by go_num, HI9.out, HB9.out, HM9.out⟩
      case measure => simp [intOf]; omega
    · have hnl : ¬ (i < xs.length) := hlt
      have hN3 := newW_any w.heap.size wr HM.out.size
      have HN3 := Lib.hid hN3
      clear hN3 hm
      go_wp2_with fail
      refine HN3.out.mono ?_
      rintro e w9 ⟨g3, rfl, hg3, i9, m9⟩
      have HI9 := Lib.hid i9
      have HM9 := Lib.hid (HM.out.trans0 m9)
      have HB9 := Lib.hid (m9.get0 HB.out)
      have hlw : w1.heap.size < wr.heap.size := lt_of_block HB.out
      obtain ⟨L, hL⟩ : ∃ L : Nat, L = 4194300 - k := ⟨_, rfl⟩
      have hwc : 4194300 - (k : Int) = (L : Int) := by omega
      have hLN : L ≤ N := by have := HN.out; omega
      have hLk := form_len4 k hk9
      rw [← hL] at hLk
      have HLK := Lib.hid hLk
      have HLL := Lib.hid hL
      clear hL hLk
      clear i9 m9
      go_wp2_with fail
      refine (HPK.out _).mono ?_
      rintro e w10 ⟨rfl, hw10⟩
      subst hw10
      have rdz : Rd V8 w9 (some ⟨w1.heap.size, 0, none⟩) N zl := Rd.of_blk HB9.out (fun j v hv => by simpa using hv) (by rw [HZN.out]; exact Nat.le_refl _)
      have htl : (zl.take L).length = L := by rw [List.length_take, HZN.out]; omega
      have hBW := bytesW_any w.heap.size g3 (.slice none 0 0) ⟨[], 0⟩ w9 HI9.out (by simp) (some ⟨w1.heap.size, 0, none⟩) N (zl.take L) (rdz.take L) (by rw [htl]; have := HLL.out; omega) (fun _ x hx hf => by
        cases hx
        rcases mem_footB.1 hf with h | h
        · have : w1.heap.size = g3 := h
          omega
        · cases h)
      rw [htl] at hBW
      obtain ⟨b0, hb0⟩ : ∃ b0, b0 = form L ++ zl.take L := ⟨_, rfl⟩
      have hb0l : b0.length = 4 + L := by rw [hb0, List.length_append, HLK.out, htl]
      have hlay : (Wr.lay ⟨[], 0⟩ b0) = ⟨b0, 0⟩ := by
        unfold Wr.lay
        rw [if_neg (by simp), if_neg (by have := HLL.out; simp; omega)]
        simp
      rw [← hb0, hlay] at hBW
      have HBW := Lib.hid hBW
      have HB0L := Lib.hid hb0l
      clear rdz htl hBW hb0 hb0l hlay
      go_wp2_with fail
      refine HBW.out.mono ?_
      rintro e w11 ⟨v3, rfl, i11, m11, _⟩
      have HI11 := Lib.hid i11
      have HM11 := Lib.hid (HM9.out.trans m11 (fun x hx => .inr (by
        rcases mem_footB.1 hx with h | h
        · have := HM.out.size; omega
        · cases h)))
      clear i11 m11 HBW HI9 HM9 HB9
      go_wp2_with fail
      go_loopw [13] (fun jv wr => ∃ (j : Nat) (v : Value) (bs : List UInt8), j ≤ k ∧ jv = .int .i64 j ∧ IsW wr w.heap.size g3 v ⟨bs, 0⟩ ∧ bs.length = 4 + L + j ∧ Mod [] w wr) (fun jv _ => k - (intOf jv).toNat)
      case atStart => exact ⟨0, v3, b0, by omega, rfl, HI11.out, HB0L.out, HM11.out⟩
      case round =>
        obtain ⟨j, v, bs, hj, rfl, hiw, hbs, hm⟩ := hrel
        have HI := Lib.hid hiw
        have HBS := Lib.hid hbs
        have HM := Lib.hid hm
        clear hiw hbs hm HI11 HM11
        go_wp2_with fail
        refine (HPK.out _).mono ?_
        rintro e w12 ⟨rfl, hw12⟩
        subst hw12
        by_cases hjk : j < k
        · have cv := cv_byte (j : Int)
          have hlay : (Wr.lay ⟨bs, 0⟩ [byteOf (j : Int)]) = ⟨bs ++ [byteOf (j : Int)], 0⟩ := by
            unfold Wr.lay
            rw [if_neg (by simp), if_neg (by have := HLL.out; have := HBS.out; simp; omega)]
          have hBY := byteW_any w.heap.size g3 v ⟨bs, 0⟩ wr HI.out (by have := HLL.out; have := HBS.out; show bs.length ≤ _; omega) (byteOf (j : Int))
          rw [hlay] at hBY
          have HBY := Lib.hid hBY
          clear hBY hlay
          go_wp2_with fail
          refine HBY.out.mono ?_
          rintro e w13 ⟨v4, rfl, i13, m13, _⟩
          have HI13 := Lib.hid i13
          have hfb := HI.out.foot_base
          have HM13 := Lib.hid (HM.out.trans m13 (fun x hx => .inr (hfb x hx)))
          clear i13 m13 HBY hfb
          go_wp2_with fail
          go_roundw
          case rel => exact ⟨j + 1, v4, _, by omega, by go_num, HI13.out, by have := HBS.out; simp; omega, HM13.out⟩
          case measure => simp [intOf]; omega
        · have hnj : ¬ ((j : Int) < (k : Int)) := by omega
          have hjk2 : j = k := by omega
          have hbl : bs.length = 4194304 := by have := HLL.out; have := HBS.out; omega
          have hD := done_yes w.heap.size g3 v ⟨bs, 0⟩ wr HI.out (by show bs.length ≤ _; omega) rfl
          have HD := Lib.hid hD
          have HBL := Lib.hid hbl
          have hlb : ((bs.length : Int) != 4194304) = false := by rw [hbl]; rfl
          have hlay : (Wr.lay ⟨bs, 0⟩ [b]) = ⟨bs, 30⟩ := by
            unfold Wr.lay
            rw [if_neg (by simp), if_pos (by simp; omega)]
          have HLAY := Lib.hid hlay
          clear hD hjk2 hbl hlay
          go_wp2_with fail
          refine HD.out.mono ?_
          rintro e w14 ⟨r1, rfl, o14, m14⟩
          obtain ⟨p1, c1, hr1, _, _⟩ := o14.rd
          subst hr1
          have HI14 := Lib.hid (HI.out.mod0 m14)
          have HM14 := Lib.hid (HM.out.trans0 m14)
          clear o14 m14 HD
          go_wp2_with fail
          have hBY := byteW_any w.heap.size g3 v ⟨bs, 0⟩ w14 HI14.out (by show bs.length ≤ _; rw [HBL.out]; exact Nat.le_refl _) b
          rw [HLAY.out] at hBY
          refine hBY.mono ?_
          rintro e w15 ⟨v5, rfl, i15, m15, _⟩
          have HI15 := Lib.hid i15
          have hfb := HI.out.foot_base
          have HM15 := Lib.hid (HM14.out.trans m15 (fun x hx => .inr (hfb x hx)))
          clear i15 m15 hBY hfb
          go_wp2_with fail
          refine (done_no w.heap.size g3 v5 _ w15 HI15.out (show (30 : Int) ≠ 0 by decide)).mono ?_
          rintro e w16 ⟨rfl, m16⟩
          have HI16 := Lib.hid (HI15.out.mod0 m16)
          have HM16 := Lib.hid (HM15.out.trans0 m16)
          clear m16
          go_wp2_with fail
          have hNU := number_any w.heap.size g3 v5 ⟨bs, 30⟩ w16 HI16.out (by show bs.length ≤ _; rw [HBL.out]; exact Nat.le_refl _) (-1) (by decide)
          rw [show Wr.number ⟨bs, 30⟩ (-1) = ⟨bs, 30⟩ from rfl] at hNU
          refine hNU.mono ?_
          rintro e w17 ⟨v6, rfl, i17, m17, _⟩
          have HI17 := Lib.hid i17
          have hfb := HI16.out.foot_base
          have HM17 := Lib.hid (HM16.out.trans m17 (fun x hx => .inr (hfb x hx)))
          clear i17 m17 hNU hfb
          go_wp2_with fail
          refine (done_no w.heap.size g3 v6 _ w17 HI17.out (show (30 : Int) ≠ 0 by decide)).mono ?_
          rintro e w18 ⟨rfl, m18⟩
          have HM18 := Lib.hid (HM17.out.trans0 m18)
          clear m18
          go_wp2_with fail
          go_ret
          exact ⟨rfl, HM18.out⟩
end Go.Proofs.Ytnmcbdppbpfegaa
