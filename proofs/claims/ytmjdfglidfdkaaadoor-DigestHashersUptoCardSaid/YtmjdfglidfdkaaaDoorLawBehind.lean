/- DigestBehind. Conditions: the table of the steps lies in its variable; at most 2^20 bytes. -/
import Derived.Test.YtmjdfglidfdkaaaDoorLawApart
import Derived.Test.YtmjdfglidfdkaaaDoorLawBits
import Derived.Test.YtmjdfglidfdkaaaDoorOwnB
import Derived.Deep.DeepCutAuto
namespace Go.Proofs.YtmjdfglidfdkaaaDoor
open Go.RowKit
attribute [local go_sem high] one8 st8 cm8 b_and8 b_and8r b_and8l b_or8 b_or8r b_or8l b_xor8 b_xor8r b_xor8l b_andNot8 b_andNot8r b_andNot8l b_add8 b_add8r b_add8l b_sub8 b_sub8r b_sub8l b_mul8 b_mul8r b_mul8l b_eql8 b_eql8r b_eql8l b_neq8 b_neq8r b_neq8l b_lss8 b_lss8r b_lss8l b_leq8 b_leq8r b_leq8l b_gtr8 b_gtr8r b_gtr8l b_geq8 b_geq8r b_geq8l b_quo8r b_rem8r b_shl8r b_shr8r b_shl8l b_shr8l u_xor8 g_eql8 g_neq8 g_eql8' g_neq8' one32 st32 cm32 b_and32 b_and32r b_and32l b_or32 b_or32r b_or32l b_xor32 b_xor32r b_xor32l b_andNot32 b_andNot32r b_andNot32l b_add32 b_add32r b_add32l b_sub32 b_sub32r b_sub32l b_mul32 b_mul32r b_mul32l b_eql32 b_eql32r b_eql32l b_neq32 b_neq32r b_neq32l b_lss32 b_lss32r b_lss32l b_leq32 b_leq32r b_leq32l b_gtr32 b_gtr32r b_gtr32l b_geq32 b_geq32r b_geq32l b_quo32r b_rem32r b_shl32r b_shr32r b_shl32l b_shr32l u_xor32 g_eql32 g_neq32 g_eql32' g_neq32' one64 st64 cm64 b_and64 b_and64r b_and64l b_or64 b_or64r b_or64l b_xor64 b_xor64r b_xor64l b_andNot64 b_andNot64r b_andNot64l b_add64 b_add64r b_add64l b_sub64 b_sub64r b_sub64l b_mul64 b_mul64r b_mul64l b_eql64 b_eql64r b_eql64l b_neq64 b_neq64r b_neq64l b_lss64 b_lss64r b_lss64l b_leq64 b_leq64r b_leq64l b_gtr64 b_gtr64r b_gtr64l b_geq64 b_geq64r b_geq64l b_quo64r b_rem64r b_shl64r b_shr64r b_shl64l b_shr64l u_xor64 g_eql64 g_neq64 g_eql64' g_neq64' c_u8_u8 c_u8_u32 c_u8_u64 c_i_u8 c_u32_u8 c_u32_u32 c_u32_u64 c_i_u32 c_u64_u8 c_u64_u32 c_u64_u64 c_i_u64 c_u8_i c_u32_i
attribute [local go_sem ↓] ce8 ce32 ce64
attribute [local go_sem ↓] loadO26 storeO26 sliced_slp
attribute [local irreducible] compress hst laidOf fin refOf bitsOf
theorem shr8V (t : TypeId) (n : Int) (m : Nat) (h0 : 0 ≤ n) (h1 : n < 256) (hm : m < 8) : binOp .shr t (.int .u8 n) (V64 (UInt64.ofNat m)) = pure (V8 (UInt8.ofNat n.toNat >>> UInt8.ofNat m)) := by
  have e : (UInt64.ofNat m).toNat = m := by rw [UInt64.toNat_ofNat']; omega
  unfold V64
  rw [e, b_shr8l t n .u64 m h0 h1 (by omega) (by omega), Int.toNat_natCast]
theorem fin_last (l : List UInt8) (a b : UInt8) (m : Nat) (h : lastByte a m = lastByte b m) : fin l a m = fin l b m := by
  unfold fin endSt pad1
  rw [h]
theorem mask_last (x y : UInt8) (m : Nat) : lastByte (x &&& ~~~(255 >>> UInt8.ofNat m) ||| y &&& (255 >>> UInt8.ofNat m)) m = lastByte x m := by
  unfold lastByte
  generalize (255 : UInt8) >>> UInt8.ofNat m = k
  generalize (128 : UInt8) >>> UInt8.ofNat m = j
  congr 1
  apply UInt8.eq_of_toBitVec_eq
  simp only [UInt8.toBitVec_and, UInt8.toBitVec_or, UInt8.toBitVec_not]
  ext i hi
  simp
  cases k.toBitVec[i] <;> simp
/-- Bits asks the front and the bits that are left, and nothing else. -/
theorem bits_front (d c : List UInt8) (n : Nat) (h : c.take (n / 8) = d.take (n / 8)) (hl : n % 8 ≠ 0 → lastByte (c.getD (n / 8) 0) (n % 8) = lastByte (d.getD (n / 8) 0) (n % 8)) : bitsOf c n = bitsOf d n := by
  unfold bitsOf
  by_cases h0 : n % 8 = 0
  · rw [if_pos h0, if_pos h0, h]
  · rw [if_neg h0, if_neg h0, h, fin_last _ _ _ _ (hl h0)]
theorem neqD (w : World) (a : List UInt8) (ha : a.length = 32) : (binOp .neq 26 (dv a) (dv a)).run Tryd.prog w = .ok (.bool false) w := by
  unfold dv
  rw [run_neq_struct, show (Op.equalIn 10000 26 (.agg (a.map V8).toArray) (.agg (a.map V8).toArray)).run Tryd.prog w = .ok (a == a) w from run_equalIn_bytes w 9998 _ 5 32 Tryd.underlying26 Tryd.underlying5 Tryd.sizeOf5 a a ha ha]
  simp
set_option maxHeartbeats 1000000 in
theorem own_blk {w : World} {B g : Nat} {c : List UInt8} (h : w.heap[g]? = some (.cells (c.map V8).toArray 5 (0, 0))) (hB : B ≤ g) (hl : c.length ≤ 140737488355328) : Own w B (.slice (some ⟨g, 0, none⟩) c.length c.length) c :=
  ⟨by simp, .inr ⟨g, c.length, _, rfl, hB, h, Nat.le_refl _, by unfold maxLen; omega, by simp, by simp [List.take_of_length_le]⟩⟩
set_option maxRecDepth 100000 in
set_option maxHeartbeats 2000000 in
theorem behind_any (p : Option Addr) (cap : Nat) (d : List UInt8) (z : Int) (q : Option Addr) (qap : Nat) (jl : List UInt8) (w : World) (hr : Rd V8 w p cap d) (hq : Rd V8 w q qap jl) (ht : Tab w) (hd : d.length ≤ 1048576) (hjl : jl.length ≤ 1048576) (h0 : -9223372036854775808 ≤ z) (h1 : z ≤ 9223372036854775807) :
    Calls Tryd.prog 8 #[.slice p d.length cap, .int .i64 z, .slice q jl.length qap] w fun e w' => e = .returned (.bool true) ∧ Mod [] w w' := by
  have HR := Lib.hid hr
  have HQ := Lib.hid hq
  have HT := Lib.hid ht
  have hcap := hr.le
  clear hr hq ht
  go_enter Tryd.func8, Tryd.ntmps8
  go_wp2_with fail
  refine (awake_any w HT.out).mono ?_
  rintro e w1 ⟨rfl, m1⟩
  go_wp2_with (go_at_call 23; refine (pick_any _ _ _ h0 h1 (by omega) (by omega)).mono ?_; rintro e w' ⟨n, hn, rfl, rfl⟩)
  obtain ⟨w1, hw1⟩ : ∃ x, x = w' := ⟨w', rfl⟩
  subst hw1
  have hn8 : n ≤ 8 * d.length := by omega
  obtain ⟨x, hxe⟩ : ∃ x, x = bitsOf d n := ⟨_, rfl⟩
  have hx : x.length = 32 := by rw [hxe]; exact bitsOf_length _ _
  have HXE := Lib.hid hxe
  have B1 := Lib.hid (bits_yes p cap d n w1 (HR.out.mod0 m1) (Tab.mod m1 HT.out (by simp)) (Nat.lt_of_lt_of_le HT.out.lt m1.size) hn8 (by omega))
  rw [← hxe] at B1
  clear hxe
  refine B1.out.mono ?_
  rintro e w2 ⟨rfl, m2⟩
  have M2 := (m1.trans0 m2).alloc (.cells (x.map V8).toArray 26)
  have D2 := Lib.hid (hp_new w2 (.cells (x.map V8).toArray 26) _ rfl)
  have hS := storeNewD w2 x hx
  obtain ⟨m, hm⟩ : ∃ m, m = (n + 7) / 8 := ⟨_, rfl⟩
  have hml : m ≤ d.length := by omega
  have hmc : m ≤ cap := by omega
  have hmz : ((n : Int) + 7) / 8 = (m : Int) := by omega
  have HM := Lib.hid hm
  clear m1 m2 B1 hm
  go_wp2_with fail
  clear hS
  have TW := Lib.hid (twin_any p cap (d.take m) _ ((HR.out.take m).mod0 M2) (by simp; omega))
  rw [show (d.take m).length = m by simp; omega] at TW
  refine TW.out.mono ?_
  clear TW
  rintro e w3 ⟨rfl, hc, m3⟩
  rw [alloc_hs] at hc ⊢
  obtain ⟨g, hg⟩ : ∃ g, g = w2.heap.size + 1 := ⟨_, rfl⟩
  rw [← hg] at hc ⊢
  have M3 := M2.trans0 m3
  have D3 := Lib.hid (m3.get0 D2.out)
  have HC := Lib.hid hc
  have hgw : w.heap.size ≤ g := by have := M2.size; rw [alloc_hs] at this; omega
  have hg2 : w2.heap.size < g := by omega
  clear hc m3 D2 M2 hg
  obtain ⟨r, hrr⟩ : ∃ r, r = n % 8 := ⟨_, rfl⟩
  have hrz : (n : Int) % 8 = (r : Int) := by omega
  have hr8 : r < 8 := by omega
  have HRR := Lib.hid hrr
  clear hrr
  go_upto_region 5 with fail
  obtain ⟨A, hA⟩ : ∃ A : Bool, A = (decide (r ≠ 0) && decide (0 < jl.length)) := ⟨_, rfl⟩
  have HA := Lib.hid hA
  clear hA
  go_cut [42] (fun v wx => v = .bool A ∧ wx = w3)
  case first =>
    by_cases hr0 : r = 0
    · have hd2 : decide ((r : Int) = 0) = true := by simp; omega
      go_wp2_with fail
      go_meet
      case rel => exact ⟨by rw [HA.out]; simp [hr0], by first | rfl | trivial⟩
    · have hd2 : decide ((r : Int) = 0) = false := by simp; omega
      go_wp2_with fail
      go_meet
      case rel => exact ⟨by rw [HA.out]; simp [hr0], by first | rfl | trivial⟩
  case rest =>
    rename_i v42
    obtain ⟨rfl, rfl⟩ := hcut
    go_upto_if 42 with fail
    go_cut [] (fun wx => ∃ c : List UInt8, c.length = m ∧ bitsOf (c ++ jl) n = x ∧ wx.heap[g]? = some (.cells (c.map V8).toArray 5) ∧ wx.heap[w2.heap.size]? = some (.cells (x.map V8).toArray 26) ∧ Mod [] w wx)
    case first =>
      cases A with
      | false =>
        go_wp2_with fail
        go_meet
        case rel =>
          have hA := HA.out
          have hmm := HM.out
          have hrr := HRR.out
          refine ⟨d.take m, by simp; omega, ?_, HC.out, D3.out, M3⟩
          rw [HXE.out]
          have hA' : r = 0 ∨ jl.length = 0 := by
            have h : (decide (r ≠ 0) && decide (0 < jl.length)) = false := hA.symm
            by_cases h1 : r = 0
            · exact .inl h1
            · refine .inr ?_
              by_cases h2 : 0 < jl.length
              · simp [h1, h2] at h
              · omega
          refine bits_front d _ n ?_ ?_
          · rw [List.take_append_of_le_length (by simp; omega), List.take_take, Nat.min_eq_left (by omega)]
          · intro h0
            have hjn : jl = [] := List.eq_nil_of_length_eq_zero (by omega)
            rw [hjn, List.append_nil]
            congr 1
            simp only [List.getD_eq_getElem?_getD, List.getElem?_take, show n / 8 < m by omega, if_true]
      | true =>
        have hA := HA.out
        have hmm := HM.out
        have hrr := HRR.out
        have hA' : r ≠ 0 ∧ 0 < jl.length := by
          have h : (decide (r ≠ 0) && decide (0 < jl.length)) = true := hA.symm
          simpa using h
        have hr0 : ¬ r = 0 := hA'.1
        have hj0 : 0 < jl.length := hA'.2
        have hj0z : (0 : Int) < (jl.length : Int) := by omega
        obtain ⟨L, hL⟩ : ∃ L, m = L + 1 := ⟨m - 1, by omega⟩
        have hLn : L = n / 8 := by omega
        have HLN := Lib.hid hLn
        have hLz : (m : Int) - 1 = (L : Int) := by omega
        have hLm : L < m := by omega
        have hjx : jl[0]? = some (jl.getD 0 0) := by simp [List.getElem?_eq_getElem hj0]
        obtain ⟨b, o, rfl, hcj⟩ := HQ.out.cell 0 _ hjx
        have hb : b < w.heap.size := block_lt_of_cell hcj
        have hcj' : wc.cell? ⟨b, o, none⟩ = some (V8 (jl.getD 0 0)) := by
          rw [World.cell?_of_block (w := w) (M3.block b hb (by simp))]; simpa using hcj
        have hlc : (d.take m).length = m := by simp; omega
        have hcg : wc.cell? ⟨g, L, none⟩ = some (V8 ((d.take m).getD L 0)) := by
          rw [cell_blk HC.out]
          have := cell_map V8 (d.take m) L 0 (by rw [hlc]; exact hLm)
          simpa using this
        have hfg : wc.frozen? ⟨g, L, none⟩ = false := frozen_blk HC.out L
        have hsh := shr8V 5 255 r (by decide) (by decide) hr8
        change binOp .shr 5 (.int .u8 255) (V64 (UInt64.ofNat r)) = pure (V8 ((255 : UInt8) >>> UInt8.ofNat r)) at hsh
        obtain ⟨kk, hkk⟩ : ∃ kk : UInt8, kk = (255 : UInt8) >>> UInt8.ofNat r := ⟨_, rfl⟩
        rw [← hkk] at hsh
        obtain ⟨v1, hv1⟩ : ∃ v1 : UInt8, v1 = (d.take m).getD L 0 := ⟨_, rfl⟩
        obtain ⟨v2, hv2⟩ : ∃ v2 : UInt8, v2 = jl.getD 0 0 := ⟨_, rfl⟩
        rw [← hv1] at hcg
        rw [← hv2] at hcj'
        have HKK := Lib.hid hkk
        have HV1 := Lib.hid hv1
        have HV2 := Lib.hid hv2
        have HLC := Lib.hid hlc
        have HLL := Lib.hid hL
        clear hkk hv1 hv2 hlc hL hLn hjx hcj hA hmm hrr hA'
        go_wp2_with fail
        go_region
        all_goals
          go_wp2_with fail
          go_meet
          case rel =>
            have hL := HLL.out
            have hLn := HLN.out
            refine ⟨(d.take m).set L (v1 &&& ~~~kk ||| v2 &&& kk), by simp; omega, ?_, ?_, ?_, ?_⟩
            · rw [HXE.out]
              refine bits_front d _ n ?_ ?_
              · rw [← hLn, List.take_append_of_le_length (by simp; omega), List.take_set_of_le (Nat.le_refl L), List.take_take, Nat.min_eq_left (by omega)]
              · intro _
                have e1 : ((d.take m).set L (v1 &&& ~~~kk ||| v2 &&& kk) ++ jl).getD (n / 8) 0 = v1 &&& ~~~kk ||| v2 &&& kk := by
                  rw [← hLn, List.getD_eq_getElem?_getD, List.getElem?_append_left (by simp; omega), List.getElem?_set_self (by simp; omega)]
                  rfl
                have e2 : d.getD (n / 8) 0 = v1 := by
                  rw [HV1.out, ← hLn]
                  simp only [List.getD_eq_getElem?_getD, List.getElem?_take, hLm, if_true]
                rw [e1, e2, HKK.out, HRR.out]
                exact mask_last _ _ _
            · have h := hp_sc (j := L) (v := V8 (v1 &&& ~~~kk ||| v2 &&& kk)) HC.out
              rw [map_set] at h
              first | exact h | exact hp_drew h
            · first | exact hp_sc_ne D3.out (by omega) | exact hp_drew (hp_sc_ne D3.out (by omega))
            · first | exact M3.setCell (.inr hgw) _ | exact (M3.setCell (.inr hgw) _).drew
    case rest =>
      clear HC D3 M3 HA HM
      obtain ⟨c, hcl, hcb, hcg, hcd, M4⟩ := hcut
      rename_i wx
      have HC := Lib.hid hcg
      have D4 := Lib.hid hcd
      have HCB := Lib.hid hcb
      have HCL := Lib.hid hcl
      have hown := own_blk (B := w.heap.size) hcg hgw (by omega)
      rw [hcl] at hown
      have HO := Lib.hid hown
      clear hcg hcd hcb hcl hown
      have hsz4 := M4.size
      go_wp2_with (at_builtin; refine wpList_pushAll rfl _ _ rfl w.heap.size _ c HO.out rfl q jl.length qap jl rfl rfl (HQ.out.mod0 M4) (by have := HCL.out; omega) hsz4 ?_; intro v' w5 ho5 hg5; obtain ⟨p5, cap5, rfl, hrd5, _⟩ := ho5.rd; have HRD5 := Lib.hid hrd5; have HG5 := Lib.hid hg5; clear ho5 hrd5 hg5)
      have M5 : Mod [] w w5 := M4.of_grown HG5.out (fun g' hg' => .inr (HO.out.row g' hg'))
      have D5 := Lib.hid ((HG5.out.block w2.heap.size (lt_of_block D4.out) (by simp [Value.ownBlock]; omega)).trans D4.out)
      have hlen5 : (c ++ jl).length = m + jl.length := by rw [List.length_append, HCL.out]
      have B2 := Lib.hid (bits_yes p5 cap5 (c ++ jl) n w5 HRD5.out (Tab.mod M5 HT.out (by simp)) (Nat.lt_of_lt_of_le HT.out.lt M5.size) (by rw [hlen5]; omega) (by rw [hlen5]; omega))
      rw [HCB.out, List.length_append] at B2
      clear hlen5
      refine B2.out.mono ?_
      rintro e w6 ⟨rfl, m6⟩
      have M6 := (M5.trans0 m6).alloc (.cells (x.map V8).toArray 26)
      have D6 := Lib.hid (hp_old (o := .cells (x.map V8).toArray 26) (m6.get0 D5.out))
      have D66 := Lib.hid (hp_new w6 (.cells (x.map V8).toArray 26) _ rfl)
      have hS := storeNewD w6 x hx
      have L6 := loadDv x hx D6.out
      have L66 := loadDv x hx D66.out
      have hN := fun w => neqD w x hx
      have hGd := eqGuardD
      clear m6 M5 D5 B2
      by_cases hr0 : r = 0
      · have hd2 : decide ((r : Int) = 0) = true := by simp; omega
        obtain ⟨t, htt⟩ : ∃ t, t = n / 8 := ⟨_, rfl⟩
        have hnz : (n : Int) / 8 = (t : Int) := by omega
        have hnd : t ≤ d.length := by omega
        have hnc : t ≤ cap := by omega
        have hxf : fin (d.take t) 0 0 = x := by
          rw [HXE.out, htt]
          unfold bitsOf
          rw [if_pos (by rw [← HRR.out]; exact hr0)]
        have DS := Lib.hid (digest_sum p cap (d.take t) _ ((HR.out.take t).mod0 M6) (Tab.mod M6 HT.out (by simp)) (Nat.lt_of_lt_of_le HT.out.lt M6.size) (by simp; omega))
        rw [hxf, show (d.take t).length = t by simp; omega] at DS
        clear hxf htt
        go_wp2_with fail
        clear hS L6 L66
        refine DS.out.mono ?_
        rintro e w7 ⟨rfl, m7⟩
        have M7 := (M6.trans0 m7).alloc (.cells (x.map V8).toArray 26)
        have L7 := loadDv x hx (hp_old (o := .cells (x.map V8).toArray 26) (m7.get0 D6.out))
        have L77 := loadDv x hx (hp_new w7 (.cells (x.map V8).toArray 26) _ rfl)
        have hS := storeNewD w7 x hx
        have hE := fun w => eqD w x x hx hx
        clear hx m7
        go_wp2_with fail
        go_ret
        exact ⟨rfl, M7⟩
      · have hd2 : decide ((r : Int) = 0) = false := by simp; omega
        go_wp2_with fail
        go_ret
        exact ⟨rfl, M6⟩
end Go.Proofs.YtmjdfglidfdkaaaDoor
