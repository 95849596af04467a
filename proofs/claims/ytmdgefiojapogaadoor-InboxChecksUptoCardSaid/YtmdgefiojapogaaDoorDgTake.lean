/- What take does: the state behind a piece. Condition: the table of the steps lies in its variable. -/
import Derived.Test.YtmdgefiojapogaaDoorDgWords
namespace Go.Proofs.YtmdgefiojapogaaDoor
open Go.RowKit
attribute [local go_sem high] one8 st8 cm8 b_and8 b_and8r b_and8l b_or8 b_or8r b_or8l b_xor8 b_xor8r b_xor8l b_andNot8 b_andNot8r b_andNot8l b_add8 b_add8r b_add8l b_sub8 b_sub8r b_sub8l b_mul8 b_mul8r b_mul8l b_eql8 b_eql8r b_eql8l b_neq8 b_neq8r b_neq8l b_lss8 b_lss8r b_lss8l b_leq8 b_leq8r b_leq8l b_gtr8 b_gtr8r b_gtr8l b_geq8 b_geq8r b_geq8l b_quo8r b_rem8r b_shl8r b_shr8r b_shl8l b_shr8l u_xor8 g_eql8 g_neq8 g_eql8' g_neq8' one32 st32 cm32 b_and32 b_and32r b_and32l b_or32 b_or32r b_or32l b_xor32 b_xor32r b_xor32l b_andNot32 b_andNot32r b_andNot32l b_add32 b_add32r b_add32l b_sub32 b_sub32r b_sub32l b_mul32 b_mul32r b_mul32l b_eql32 b_eql32r b_eql32l b_neq32 b_neq32r b_neq32l b_lss32 b_lss32r b_lss32l b_leq32 b_leq32r b_leq32l b_gtr32 b_gtr32r b_gtr32l b_geq32 b_geq32r b_geq32l b_quo32r b_rem32r b_shl32r b_shr32r b_shl32l b_shr32l u_xor32 g_eql32 g_neq32 g_eql32' g_neq32' one64 st64 cm64 b_and64 b_and64r b_and64l b_or64 b_or64r b_or64l b_xor64 b_xor64r b_xor64l b_andNot64 b_andNot64r b_andNot64l b_add64 b_add64r b_add64l b_sub64 b_sub64r b_sub64l b_mul64 b_mul64r b_mul64l b_eql64 b_eql64r b_eql64l b_neq64 b_neq64r b_neq64l b_lss64 b_lss64r b_lss64l b_leq64 b_leq64r b_leq64l b_gtr64 b_gtr64r b_gtr64l b_geq64 b_geq64r b_geq64l b_quo64r b_rem64r b_shl64r b_shr64r b_shl64l b_shr64l u_xor64 g_eql64 g_neq64 g_eql64' g_neq64' c_u8_u8 c_u8_u32 c_u8_u64 c_i_u8 c_u32_u8 c_u32_u32 c_u32_u64 c_i_u32 c_u64_u8 c_u64_u32 c_u64_u64 c_i_u64 c_u8_i c_u32_i
attribute [local go_sem ↓] ce8 ce32 ce64
/-- The table lies in its variable. -/
def Tab (w : World) : Prop := w.rangeAt 1 0 (steps.map V32)
theorem Tab.mod {S : List Nat} {a w : World} (h : Mod S a w) (ht : Tab a) (hb : 1 ∉ S) : Tab w := range_mod h ht hb
def stv (s : St) : Value := .agg #[V32 s.a, V32 s.b, V32 s.c, V32 s.d, V32 s.e, V32 s.f, V32 s.g, V32 s.h]
theorem info64 : (Tryd.prog.info? 126).map (·.size) = some 64 := by kernel_rfl
theorem info62 : (Tryd.prog.info? 124).map (·.size) = some 8 := by kernel_rfl
theorem info60 : (Tryd.prog.info? 122).map (·.size) = some 1 := by kernel_rfl
theorem infoS : (Tryd.prog.info? 138).map (·.size) = some (steps.map V32).length := by kernel_rfl
theorem info80 : (Tryd.prog.info? 138).map (·.size) = some 64 := by kernel_rfl
set_option maxRecDepth 100000 in
theorem take_any (s : St) (p : List UInt8) (w : World) (hp : p.length = 64) (ht : Tab w) :
    Calls Tryd.prog 73 #[stv s, .agg (p.map V8).toArray] w fun e w' => e = .returned (stv (compress s p)) ∧ Mod [] w w' := by
  have HT := Lib.hid ht
  have I64 := Lib.hid (show (Tryd.prog.info? 126).map (·.size) = some ((p.map V8).toArray).size by simpa [hp] using info64)
  have I80 := Lib.hid (show (Tryd.prog.info? 138).map (·.size) = some (((words p).map V32).toArray).size by simpa [words_length] using info80)
  clear ht
  unfold stv
  go_enter Tryd.func73, Tryd.ntmps73
  go_wp2_with (first
    | (refine wpList_load_row rfl 126 _ rfl _ rfl 126 _ (0, 0) _ (hp_old (hp_new _ _ _ (by simp))) Tryd.underlying126 rfl I64.out ?_)
    | (go_at_call 83; refine (words_any p _ hp).mono ?_; rintro e w1 ⟨rfl, hm1⟩)
    | (refine wpList_store_row rfl 138 _ _ rfl _ _ rfl rfl 138 _ (hp_new _ _ _ rfl) I80.out (by simp [words_length]) (by simp [one32]) ?_))
  have hz1 : w.heap.size + 3 ≤ w1.heap.size := by have := hm1.size; simp at this; omega
  refine abs_w (C := fun W => Code.wp _ _ _ _ W) (fun W => W.heap[w.heap.size]? = some (.cells #[V32 s.a, V32 s.b, V32 s.c, V32 s.d, V32 s.e, V32 s.f, V32 s.g, V32 s.h] 124) ∧
      (∃ Z : Array Value, Z.size = 8 ∧ W.heap[w.heap.size + 2]? = some (.cells Z 124)) ∧ W.heap[w1.heap.size]? = some (.cells ((words p).map V32).toArray 138) ∧ Mod [] w W) ?_ ?_
  · refine ⟨?_, ⟨_, by rfl, hp_setRow_ne (hp_old (hm1.get0 (hp_new _ _ _ (by simp)))) (by omega)⟩, hp_setRow (hp_new _ _ _ rfl), ?_⟩
    · exact hp_setRow_ne (hp_old (hm1.get0 (hp_old (hp_old (hp_new _ _ _ rfl))))) (by omega)
    · exact (((((Mod.refl [] w).alloc _).alloc _).alloc _).trans0 hm1).alloc _ |>.setRow (.inr (by omega)) _
  clear hm1
  rintro W ⟨hs, ⟨Z, hZ, hr⟩, hw, hm⟩
  have ht := Tab.mod hm HT.out (by simp)
  have c0 : W.cell? ⟨w.heap.size, 0, none⟩ = some (V32 s.a) := cell_blk hs 0
  have c1 : W.cell? ⟨w.heap.size, 1, none⟩ = some (V32 s.b) := cell_blk hs 1
  have c2 : W.cell? ⟨w.heap.size, 2, none⟩ = some (V32 s.c) := cell_blk hs 2
  have c3 : W.cell? ⟨w.heap.size, 3, none⟩ = some (V32 s.d) := cell_blk hs 3
  have c4 : W.cell? ⟨w.heap.size, 4, none⟩ = some (V32 s.e) := cell_blk hs 4
  have c5 : W.cell? ⟨w.heap.size, 5, none⟩ = some (V32 s.f) := cell_blk hs 5
  have c6 : W.cell? ⟨w.heap.size, 6, none⟩ = some (V32 s.g) := cell_blk hs 6
  have c7 : W.cell? ⟨w.heap.size, 7, none⟩ = some (V32 s.h) := cell_blk hs 7
  have HS := Lib.hid hs
  have HR := Lib.hid hr
  have HW := Lib.hid hw
  have HZ := Lib.hid hZ
  have HT := Lib.hid ht
  clear hs hr hw ht hZ
  go_quiet (fail)
  clear c0 c1 c2 c3 c4 c5 c6 c7
  go_wp2_with (refine wpList_load_mid rfl 138 _ rfl 1 0 rfl (steps.map V32) _ (by exact HT.out) Tryd.underlying138 rfl infoS ?_)
  go_loop [6, 7, 8, 9, 10, 11, 12, 13, 39] (fun va vb vc vd ve vf vg vh i => ∃ (k : Nat) (r : St), k ≤ 64 ∧ r = rounds (words p) s k ∧ i = .int .i64 k ∧
      va = V32 r.a ∧ vb = V32 r.b ∧ vc = V32 r.c ∧ vd = V32 r.d ∧ ve = V32 r.e ∧ vf = V32 r.f ∧ vg = V32 r.g ∧ vh = V32 r.h) (fun _ _ _ _ _ _ _ _ i => 64 - (intOf i).toNat)
  case atStart => exact ⟨0, s, by omega, rfl, rfl, rfl, rfl, rfl, rfl, rfl, rfl, rfl, rfl⟩
  case round =>
    obtain ⟨k, r, hk, hr, rfl, rfl, rfl, rfl, rfl, rfl, rfl, rfl, rfl⟩ := hrel
    have HK := Lib.hid hr
    clear hr
    by_cases hlt : k < 64
    · have hww := cell_blk HW.out k
      have hwk : ((words p).map V32)[k]? = some (V32 ((words p).getD k 0)) := cell_map _ _ _ _ (by rw [words_length]; omega)
      have hsk : (steps.map V32).toArray[k]? = some (V32 (steps.getD k 0)) := by
        have := cell_map V32 steps k 0 (by rw [steps_length]; omega)
        simpa using this
      have hix := fun W' : World => run_index_agg (P := Tryd.prog) W' Tryd.underlying138 Tryd.underlying122 rfl info60 hlt hsk
      have hwc : W.cell? ⟨w1.heap.size, k, none⟩ = some (V32 ((words p).getD k 0)) := by rw [hww]; simpa using hwk
      clear hww hwk hsk
      go_wp2_with (go_at_call 84; refine (rot_any _ _ _ (by decide)).mono ?_; rintro e w' ⟨rfl, rfl⟩)
      go_round
      case rel =>
        refine ⟨k + 1, rnd r (steps.getD k 0) ((words p).getD k 0), by omega, ?_, by go_num, rfl, rfl, rfl, rfl, rfl, rfl, rfl, rfl⟩
        rw [rounds, ← HK.out]; simp
      case measure => simp [intOf]; omega
    · have hd : decide ((k : Int) < 64) = false := by simp; omega
      have HD := Lib.hid hd
      have hr64 : r = rounds (words p) s 64 := by
        have h64 : k = 64 := by omega
        have := HK.out
        rwa [h64] at this
      have HK' := Lib.hid hr64
      clear hr64 HK
      go_wp2_with fail
      clear hd
      go_loopw [112] (fun i wr => ∃ (j : Nat) (cur : List UInt32), j ≤ 8 ∧ cur.length = 8 ∧ cur = (List.zipWith (· + ·) s.l r.l).take j ++ s.l.drop j ∧ i = .int .i64 j ∧
          wr.heap[w.heap.size]? = some (.cells (cur.map V32).toArray 124) ∧ wr.heap[w.heap.size + 2]? = some (.cells Z 124) ∧ Mod [] w wr) (fun i _ => 8 - (intOf i).toNat)
      case atStart => exact ⟨0, s.l, by omega, rfl, rfl, rfl, HS.out, HR.out, hm.drewN _⟩
      case round =>
        obtain ⟨j, cur, hj, hc8, hcur, rfl, hb, hb2, hmw⟩ := hrel
        have HC := Lib.hid hcur
        have HB := Lib.hid hb
        have HB2 := Lib.hid hb2
        have HC8 := Lib.hid hc8
        clear hcur hb hb2 hc8
        by_cases hlt8 : j < 8
        · have hrj : (#[V32 r.a, V32 r.b, V32 r.c, V32 r.d, V32 r.e, V32 r.f, V32 r.g, V32 r.h] : Array Value)[j]? = some (V32 (r.l.getD j 0)) := by
            have := cell_map V32 r.l j 0 (show j < 8 from hlt8)
            simpa [St.l] using this
          have hix := fun W' : World => run_index_agg (P := Tryd.prog) W' Tryd.underlying123 Tryd.underlying122 rfl info60 hlt8 hrj
          have hcc : wr.cell? ⟨w.heap.size, j, none⟩ = some (V32 (cur.getD j 0)) := by
            rw [cell_blk HB.out]
            have := cell_map V32 cur j 0 (by rw [HC8.out]; exact hlt8)
            simpa using this
          have hfz : wr.frozen? ⟨w.heap.size, j, none⟩ = false := frozen_blk HB.out j
          clear hrj
          go_wp2_with fail
          go_roundw
          case rel =>
            refine ⟨j + 1, cur.set j (cur.getD j 0 + r.l.getD j 0), by omega, by simpa using HC8.out, ?_, by go_num, ?_, ?_, ?_⟩
            · have e1 : cur.getD j 0 = s.l.getD j 0 := by
                rw [HC.out]
                have hsl : s.l.length = 8 := rfl
                have hrl : r.l.length = 8 := rfl
                simp [List.getElem?_append, hsl, hrl, show min j 8 = j by omega]
              rw [e1, HC.out]
              exact set_mix _ _ _ _ (by
                have hsl : s.l.length = 8 := rfl
                have hrl : r.l.length = 8 := rfl
                simp [List.getElem?_zipWith, List.getElem?_eq_getElem (show j < s.l.length by omega), List.getElem?_eq_getElem (show j < r.l.length by omega)]) (by simp [St.l])
            · rw [setCell_blk _ HB.out]
              have := hp_setRow (cs := ((cur.map V32).toArray).setIfInBounds j (V32 (cur.getD j 0 + r.l.getD j 0))) HB.out
              rw [map_set] at this
              simpa using this
            · rw [setCell_blk _ HB.out]
              exact hp_setRow_ne HB2.out (by omega)
            · exact hmw.setCell (.inr (Nat.le_refl _)) _
          case measure => simp [intOf]; omega
        · have hd8 : decide ((j : Int) < 8) = false := by simp; omega
          have i62 : (Tryd.prog.info? 124).map (·.size) = some ((cur.map V32).toArray).size := by simpa [HC8.out] using info62
          have I62 := Lib.hid i62
          clear i62
          go_wp2_with (first
            | (refine wpList_load_row rfl 124 _ rfl _ rfl 124 _ (0, 0) _ HB.out Tryd.underlying124 rfl I62.out ?_)
            | (refine wpList_store_row rfl 124 _ _ rfl _ _ rfl rfl 124 _ HB2.out I62.out (by simp [HZ.out, HC8.out]) (by simp [one32]) ?_))
          refine bodyPost_ret (results_cell_row rfl _ _ _ _ _ _ _ rfl (hp_setRow HB2.out) Tryd.underlying124 rfl I62.out) rfl ⟨?_, ?_⟩
          · have hj8 : j = 8 := by omega
            have hcc := HC.out
            rw [hj8] at hcc
            rw [hcc, HK'.out]
            rfl
          · exact hmw.setRow (.inr (by omega)) _
end Go.Proofs.YtmdgefiojapogaaDoor
