/- The reference's of, Sum, Bits. Conditions: its two tables lie in their variables; fewer than 2^46 bytes. -/
import Derived.Test.YtmdgefiojapogaaDoorRfLaid
import Derived.Test.YtmdgefiojapogaaDoorDgTreeI
namespace Go.Proofs.YtmdgefiojapogaaDoor
open Go.RowKit
attribute [local go_sem high] one8 st8 cm8 b_and8 b_and8r b_and8l b_or8 b_or8r b_or8l b_xor8 b_xor8r b_xor8l b_andNot8 b_andNot8r b_andNot8l b_add8 b_add8r b_add8l b_sub8 b_sub8r b_sub8l b_mul8 b_mul8r b_mul8l b_eql8 b_eql8r b_eql8l b_neq8 b_neq8r b_neq8l b_lss8 b_lss8r b_lss8l b_leq8 b_leq8r b_leq8l b_gtr8 b_gtr8r b_gtr8l b_geq8 b_geq8r b_geq8l b_quo8r b_rem8r b_shl8r b_shr8r b_shl8l b_shr8l u_xor8 g_eql8 g_neq8 g_eql8' g_neq8' one32 st32 cm32 b_and32 b_and32r b_and32l b_or32 b_or32r b_or32l b_xor32 b_xor32r b_xor32l b_andNot32 b_andNot32r b_andNot32l b_add32 b_add32r b_add32l b_sub32 b_sub32r b_sub32l b_mul32 b_mul32r b_mul32l b_eql32 b_eql32r b_eql32l b_neq32 b_neq32r b_neq32l b_lss32 b_lss32r b_lss32l b_leq32 b_leq32r b_leq32l b_gtr32 b_gtr32r b_gtr32l b_geq32 b_geq32r b_geq32l b_quo32r b_rem32r b_shl32r b_shr32r b_shl32l b_shr32l u_xor32 g_eql32 g_neq32 g_eql32' g_neq32' one64 st64 cm64 b_and64 b_and64r b_and64l b_or64 b_or64r b_or64l b_xor64 b_xor64r b_xor64l b_andNot64 b_andNot64r b_andNot64l b_add64 b_add64r b_add64l b_sub64 b_sub64r b_sub64l b_mul64 b_mul64r b_mul64l b_eql64 b_eql64r b_eql64l b_neq64 b_neq64r b_neq64l b_lss64 b_lss64r b_lss64l b_leq64 b_leq64r b_leq64l b_gtr64 b_gtr64r b_gtr64l b_geq64 b_geq64r b_geq64l b_quo64r b_rem64r b_shl64r b_shr64r b_shl64l b_shr64l u_xor64 g_eql64 g_neq64 g_eql64' g_neq64' c_u8_u8 c_u8_u32 c_u8_u64 c_i_u8 c_u32_u8 c_u32_u32 c_u32_u64 c_i_u32 c_u64_u8 c_u64_u32 c_u64_u64 c_i_u64 c_u8_i c_u32_i
attribute [local go_sem ↓] ce8 ce32 ce64
attribute [local go_sem ↓] loadO61 storeO61 loadO26 storeO26
attribute [local irreducible] compress hst laidOf
def TabB (w : World) : Prop := w.rangeAt 0 0 (st0.l.map V32)
theorem TabB.mod {S : List Nat} {a w : World} (h : Mod S a w) (ht : TabB a) (hb : 0 ∉ S) : TabB w := range_mod h ht hb
theorem laidOf_mod (d : List UInt8) (n : Nat) : (laidOf d n).length % 64 = 0 := by
  unfold laidOf
  simp only [List.length_append, zeros_length, List.length_map, List.length_range]
  omega
theorem text_length (d : List UInt8) (n : Nat) (h : n ≤ 8 * d.length) : (text d n).length = n / 8 + 1 := by simp [text]; omega
theorem laidOf_length (d : List UInt8) (n : Nat) (h : n ≤ 8 * d.length) : (laidOf d n).length ≤ d.length + 73 := by
  unfold laidOf
  simp only [List.length_append, zeros_length, List.length_map, List.length_range, text_length d n h]
  omega
def refOf (d : List UInt8) (n : Nat) : List UInt8 := out (hst (laidOf d n))
theorem hq_hst (l : List UInt8) (h : l.length % 64 = 0) (k : Nat) (hk : k = l.length / 64) : hq l k = hst l := by subst hk; unfold hst; rfl
theorem taken_z (s : St) (p : Option Addr) (cap : Nat) (l : List UInt8) (z : Int) (k0 : Nat) (hz : z = k0) (w : World) (hr : Rd V8 w p cap l) (hk : k0 + 64 ≤ l.length) (hl : l.length < 140737488355329) (ht : TabR w) :
    Calls Tryd.prog 76 #[.agg (s.l.map V32).toArray, .slice p l.length cap, .int .i64 z] w fun e w' => e = .returned (.agg ((compress s ((l.drop k0).take 64)).l.map V32).toArray) ∧ Mod [] w w' := by
  subst hz; exact taken_any s p cap l k0 w hr hk hl ht
set_option maxRecDepth 100000 in
set_option maxHeartbeats 1000000 in
theorem of_any (p : Option Addr) (cap : Nat) (d : List UInt8) (n : Nat) (w : World) (hr : Rd V8 w p cap d) (hn : n ≤ 8 * d.length) (hd : d.length ≤ 70368744177664) (ht : TabR w) (hb : TabB w) :
    Calls Tryd.prog 62 #[.slice p d.length cap, .int .i64 n] w fun e w' => e = .returned (dv (refOf d n)) ∧ Mod [] w w' := by
  have HR := Lib.hid hr
  have HTR := Lib.hid ht
  have HTB := Lib.hid hb
  clear hr ht hb
  have hlen := laidOf_length d n hn
  have hmod := laidOf_mod d n
  have HLP := Lib.hid (laid_any p cap d n)
  generalize hlaid : laidOf d n = lay at *
  have HLAID := Lib.hid hlaid
  have HMOD := Lib.hid hmod
  clear hlaid hmod
  go_enter Tryd.func62, Tryd.ntmps62
  go_wp2_with (go_at_call 75; refine (HLP.out _ (HR.out.mod0 ((Mod.refl [] w).alloc _)) hn hd).mono ?_; rintro e w1 ⟨v, rfl, ho, hm1⟩; obtain ⟨q, c, rfl, hq, hqb⟩ := ho.rd; have HO := Lib.hid ho; have HQ := Lib.hid hq; clear ho hq; have hm2 := Lib.hid (((Mod.refl [] w).alloc _).trans0 hm1); have HRES := Lib.hid (hm1.get0 (hp_new _ _ _ rfl)); clear hm1; have hL : (LoadO 123 (.pointer (some ⟨0, 0, none⟩))).run Tryd.prog w1 = .ok (.agg (st0.l.map V32).toArray) w1 := loadO_mid (TabB.mod hm2.out HTB.out (by simp)) Tryd.underlying123 rfl info61; have hS := store8 (w := w1.alloc (.cells #[V32z, V32z, V32z, V32z, V32z, V32z, V32z, V32z] 123)) st0.l rfl (hp_new w1 _ _ rfl) rfl; unfold V32z at hS)
  clear hL hS
  obtain ⟨Z26, hZ26, HRES'⟩ : ∃ Z : Array Value, Z.size = 32 ∧ w1.heap[w.heap.size]? = some (.cells Z 24) := ⟨_, rfl, HRES.out⟩
  have HZ26 := Lib.hid hZ26
  have HRS := Lib.hid HRES'
  clear hZ26 HRES' HRES
  have hsz1 : w.heap.size < w1.heap.size := lt_of_block HRS.out
  go_loopw [7] (fun v wr => ∃ i : Nat, i ≤ lay.length / 64 ∧ v = .int .i64 (64 * (i : Int)) ∧ wr.heap[w1.heap.size]? = some (.cells ((hq lay i).l.map V32).toArray 123) ∧ wr.heap[w.heap.size]? = some (.cells Z26 24) ∧ Mod [] w1 wr) (fun v _ => lay.length - (intOf v).toNat)
  case atStart => exact ⟨0, by omega, rfl, hp_setRow (hp_new _ _ _ rfl), hp_setRow_ne (hp_old HRS.out) (by omega), ((Mod.refl [] w1).alloc _).setRow (.inr (Nat.le_refl _)) _⟩
  case round =>
    obtain ⟨i, hi, rfl, hbs, hbr, hm⟩ := hrel
    have HBS := Lib.hid hbs
    have HBR := Lib.hid hbr
    clear hbs hbr
    by_cases hlt : i < lay.length / 64
    · obtain ⟨s, hs⟩ : ∃ s, s = hq lay i := ⟨_, rfl⟩
      rw [← hs] at HBS
      have HS := Lib.hid hs
      clear hs
      have hL := load8 s.l rfl HBS.out
      have hlt' : 64 * (i : Int) < (lay.length : Int) := by omega
      obtain ⟨s2, hs2⟩ : ∃ s2, s2 = compress s ((lay.drop (64 * i)).take 64) := ⟨_, rfl⟩
      have HT := Lib.hid (taken_z s q c lay (64 * (i : Int)) (64 * i) (by omega) wr (HQ.out.mod0 hm) (by omega) (by omega) (TabR.mod (hm2.out.trans0 hm) HTR.out (by simp)))
      rw [← hs2] at HT
      have HS2 := Lib.hid hs2
      clear hs2
      go_wp2_with (go_at_call 76; refine HT.out.mono ?_; rintro e w5 ⟨rfl, hm5⟩; have hS := store8 s2.l rfl (hm5.get0 HBS.out) rfl)
      go_roundw
      case rel =>
        refine ⟨i + 1, by omega, by go_num, ?_, hp_setRow_ne (hm5.get0 HBR.out) (by omega), (hm.trans0 hm5).setRow (.inr (Nat.le_refl _)) _⟩
        rw [hq, ← HS.out]
        unfold chunk
        rw [← HS2.out]
        exact hp_setRow (hm5.get0 HBS.out)
      case measure => simp [intOf]; omega
    · have hii : i = lay.length / 64 := by omega
      have hd1 : decide (64 * (i : Int) < (lay.length : Int)) = false := by have := HMOD.out; simp; omega
      obtain ⟨fs, hfs⟩ : ∃ fs, fs = hq lay i := ⟨_, rfl⟩
      rw [← hfs] at HBS
      have HFS := Lib.hid (hfs.trans (hq_hst lay HMOD.out i hii))
      clear hfs hii hlt
      go_wp2_with fail
      clear hd1
      have hsz2 : w1.heap.size < wr.heap.size := lt_of_block HBS.out
      obtain ⟨wq, hwq⟩ : ∃ x, x = wr := ⟨wr, rfl⟩
      subst hwq
      have hm0 := hm
      clear hm
      go_loopw [9] (fun v wr2 => ∃ (j : Nat) (ds : List UInt8), j ≤ 32 ∧ v = .int .i64 j ∧ ds.length = 32 ∧ ds.take j = (List.range j).map (outByte fs) ∧ wr2.heap[wq.heap.size]? = some (.cells (ds.map V8).toArray 24) ∧ wr2.heap[w1.heap.size]? = some (.cells (fs.l.map V32).toArray 123) ∧ wr2.heap[w.heap.size]? = some (.cells Z26 24) ∧ Mod [] w wr2) (fun v _ => 32 - (intOf v).toNat)
      case atStart => exact ⟨0, zeros 32, by omega, rfl, zeros_length 32, rfl, hp_new _ _ _ (by simp), hp_old HBS.out, hp_old HBR.out, (hm2.out.trans0 hm0).alloc _⟩
      case round =>
        clear HBS HBR
        obtain ⟨j, ds, hj, rfl, hds, htk, hbD, hb7, hbr, hm7⟩ := hrel
        have HB7 := Lib.hid hb7
        have HBD := Lib.hid hbD
        have HBR := Lib.hid hbr
        have HDS := Lib.hid hds
        have HTK := Lib.hid htk
        clear hb7 hbD hbr hds htk
        by_cases hlt2 : j < 32
        · have cD : wr.cell? ⟨wq.heap.size, j, none⟩ = some (V8 (ds.getD j 0)) := by
            rw [cell_blk HBD.out]
            have := cell_map V8 ds j 0 (by rw [HDS.out]; omega)
            simpa using this
          have fD : wr.frozen? ⟨wq.heap.size, j, none⟩ = false := frozen_blk HBD.out _
          have c7 : wr.cell? ⟨w1.heap.size, j / 4, none⟩ = some (V32 (fs.l[j / 4]?.getD 0)) := by
            rw [cell_blk HB7.out]
            have := cell_map V32 fs.l (j / 4) 0 (show j / 4 < 8 by omega)
            simpa [St.l] using this
          obtain ⟨q1, hq1⟩ : ∃ q1, q1 = 24 - 8 * (j % 4) := ⟨_, rfl⟩
          have hqi : (24 : Int) - 8 * ((j : Int) % 4) = (q1 : Int) := by omega
          have hq2 : (q1 : Int) < 32 := by omega
          have hsh := fun a => shr32V 122 a q1 (by omega)
          have HQ1 := Lib.hid hq1
          clear hq1
          go_wp2_with fail
          go_roundw
          case rel =>
            refine ⟨j + 1, ds.set j (outByte fs j), by omega, by go_num, by simpa using HDS.out, ?_, ?_, ?_, ?_, hm7.setCell (.inr (by show _ ≤ wq.heap.size; omega)) _⟩
            · rw [take_set_succ _ _ _ (by rw [HDS.out]; omega), HTK.out, map_range_succ]
            · rw [setCell_blk _ HBD.out, hp_setRow HBD.out, map_set, outByte, ← HQ1.out]
            · rw [setCell_blk _ HBD.out]; exact hp_setRow_ne HB7.out (by omega)
            · rw [setCell_blk _ HBD.out]; exact hp_setRow_ne HBR.out (by omega)
          case measure => simp [intOf]; omega
        · have hd : decide ((j : Int) < 32) = false := by simp; omega
          have hj32 : ds = out fs := by
            have h32 : j = 32 := by omega
            have := HTK.out
            rw [h32, List.take_of_length_le (by rw [HDS.out]; omega)] at this
            exact this
          have HJ := Lib.hid hj32
          have hL3 : (LoadO 24 (.pointer (some ⟨wq.heap.size, 0, none⟩))).run Tryd.prog wr = .ok (.agg (ds.map V8).toArray) wr := loadD _ HDS.out HBD.out
          have hS3 : (StoreO 24 (.pointer (some ⟨w.heap.size, 0, none⟩)) (.agg (ds.map V8).toArray)).run Tryd.prog wr = .ok () (wr.setRow w.heap.size (ds.map V8).toArray) := storeD _ HDS.out HBR.out HZ26.out
          clear hj32
          go_wp2_with fail
          refine bodyPost_ret (results_cell_row rfl _ _ _ _ _ _ _ rfl (hp_setRow HBR.out) Tryd.underlying24 rfl (by simpa [HDS.out] using info26)) rfl ⟨?_, hm7.setRow (.inr (Nat.le_refl _)) _⟩
          rw [HJ.out, HFS.out]
          unfold refOf dv
          rw [HLAID.out]
end Go.Proofs.YtmdgefiojapogaaDoor
