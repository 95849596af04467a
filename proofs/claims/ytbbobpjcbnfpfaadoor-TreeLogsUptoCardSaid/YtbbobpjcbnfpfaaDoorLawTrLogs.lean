/- TreeLogs. Conditions: the tables lie in their variables; at most 2^20 bytes, digests and steps. -/
import Derived.Test.YtbbobpjcbnfpfaaDoorTrLogs
namespace Go.Proofs.YtbbobpjcbnfpfaaDoor
open Go.RowKit
attribute [local go_sem high] one8 st8 cm8 b_and8 b_and8r b_and8l b_or8 b_or8r b_or8l b_xor8 b_xor8r b_xor8l b_andNot8 b_andNot8r b_andNot8l b_add8 b_add8r b_add8l b_sub8 b_sub8r b_sub8l b_mul8 b_mul8r b_mul8l b_eql8 b_eql8r b_eql8l b_neq8 b_neq8r b_neq8l b_lss8 b_lss8r b_lss8l b_leq8 b_leq8r b_leq8l b_gtr8 b_gtr8r b_gtr8l b_geq8 b_geq8r b_geq8l b_quo8r b_rem8r b_shl8r b_shr8r b_shl8l b_shr8l u_xor8 g_eql8 g_neq8 g_eql8' g_neq8' one32 st32 cm32 b_and32 b_and32r b_and32l b_or32 b_or32r b_or32l b_xor32 b_xor32r b_xor32l b_andNot32 b_andNot32r b_andNot32l b_add32 b_add32r b_add32l b_sub32 b_sub32r b_sub32l b_mul32 b_mul32r b_mul32l b_eql32 b_eql32r b_eql32l b_neq32 b_neq32r b_neq32l b_lss32 b_lss32r b_lss32l b_leq32 b_leq32r b_leq32l b_gtr32 b_gtr32r b_gtr32l b_geq32 b_geq32r b_geq32l b_quo32r b_rem32r b_shl32r b_shr32r b_shl32l b_shr32l u_xor32 g_eql32 g_neq32 g_eql32' g_neq32' one64 st64 cm64 b_and64 b_and64r b_and64l b_or64 b_or64r b_or64l b_xor64 b_xor64r b_xor64l b_andNot64 b_andNot64r b_andNot64l b_add64 b_add64r b_add64l b_sub64 b_sub64r b_sub64l b_mul64 b_mul64r b_mul64l b_eql64 b_eql64r b_eql64l b_neq64 b_neq64r b_neq64l b_lss64 b_lss64r b_lss64l b_leq64 b_leq64r b_leq64l b_gtr64 b_gtr64r b_gtr64l b_geq64 b_geq64r b_geq64l b_quo64r b_rem64r b_shl64r b_shr64r b_shl64l b_shr64l u_xor64 g_eql64 g_neq64 g_eql64' g_neq64' c_u8_u8 c_u8_u32 c_u8_u64 c_i_u8 c_u32_u8 c_u32_u32 c_u32_u64 c_i_u32 c_u64_u8 c_u64_u32 c_u64_u64 c_i_u64 c_u8_i c_u32_i
attribute [local go_sem ↓] ce8 ce32 ce64
attribute [local go_sem ↓] sliced_slp loadO26 storeO26 buildO24 buildSlO42 loadO80
theorem meas_ok (nz i : Nat) (h : i < nz) : nz - ((i : Int) + 1).toNat < nz - ((i : Int)).toNat := by omega
theorem intOf_int (k : IntKind) (z : Int) : intOf (.int k z) = z := rfl
theorem set_same {α : Type} {l : List α} {k : Nat} {x : α} (h : l[k]? = some x) : l.set k x = l := by
  apply List.ext_getElem?
  intro i
  by_cases hki : k = i
  · subst hki
    rw [List.getElem?_set_self (List.getElem?_eq_some_iff.1 h).1, h]
  · rw [List.getElem?_set_ne hki]
set_option maxRecDepth 100000 in
set_option maxHeartbeats 8000000 in
theorem logs_law {hf : Bs → Bs} (pp : Option Addr) (cp : Nat) (zs : List Lo) (w : World) (hr : RdN 5 Lo.cells w pp cp zs) (hx : ∀ x ∈ zs, x.In w) (hn : zs.length ≤ 1048576) (H : Hs hf w) (R : Rf w) (T : TabZ w) :
    Calls Tryd.prog 11 #[.slice pp zs.length cp] w fun e w' => e = .returned (.bool true) ∧ Mod [] w w' := by
  have HH := Lib.hid H
  have HRf := Lib.hid R
  have HT := Lib.hid T
  have HR := Lib.hid hr
  have HX := Lib.hid hx
  have HAW := Lib.hid (awake_any w H)
  obtain ⟨nz, hnz⟩ : ∃ nz, nz = zs.length := ⟨_, rfl⟩
  rw [← hnz] at hn ⊢
  have HNZ := Lib.hid hnz
  clear hr hx H R T hnz
  go_enter Tryd.func11, Tryd.ntmps11
  go_wp2_with fail
  refine HAW.out.mono ?_
  rintro e w1 ⟨rfl, m1⟩
  have MA := Lib.hid (show Made w ((w1.alloc (.cells #[.pointer none, .pointer none, .pointer none] 74)).alloc (.cells #[.int .i64 0, .slice none 0 0, .int .i64 0, .slice none 0 0, .int .i64 0, .slice none 0 0] 77)) w1.heap.size (w1.heap.size + 1) [] from
    ⟨hp_old (hp_new w1 _ _ rfl), hp_new _ _ _ (by simp), by simp, by simp, (m1.alloc _).alloc _, m1.size, Nat.le_succ_of_le m1.size⟩)
  go_wp2_with fail
  obtain ⟨A, hA⟩ : ∃ A, A = w1.heap.size := ⟨_, rfl⟩
  rw [← hA] at MA ⊢
  clear hA m1
  go_loopw [6] (fun iv wr => ∃ (hs : List PL), hs.length ≤ 3 ∧ iv = .int .i64 hs.length ∧ Made w wr A (A + 1) hs) (fun iv _ => 3 - (intOf iv).toNat)
  case atStart => exact ⟨[], by simp, rfl, MA.out⟩
  case round =>
    clear MA
    obtain ⟨hs, hl, rfl, hma⟩ := hrel
    have HMA := Lib.hid hma
    clear hma
    by_cases hlt : hs.length < 3
    · obtain ⟨i, hi⟩ : ∃ i, i = hs.length := ⟨_, rfl⟩
      have HI := Lib.hid hi
      rw [← hi] at hlt hl ⊢
      clear hi
      go_wp2_with fail
      refine (new_log _).mono ?_
      rintro e w2 ⟨_, rfl, g, u, rfl, hln, m2⟩
      have hal := m2.get0 HMA.out.am
      have hcm : w2.cell? ⟨A, i, none⟩ = some (.pointer none) := by
        rw [cell_blk hal, List.getElem?_toArray, List.getElem?_append_right (by rw [List.length_map, HI.out]; exact Nat.le_refl _), List.length_map, HI.out, Nat.sub_self, show 3 - hs.length = (2 - hs.length) + 1 by have := HI.out; omega]
        rfl
      have hfm : w2.frozen? ⟨A, i, none⟩ = false := frozen_blk hal i
      have hMM := HMA.out.more (by rw [← HI.out]; exact hlt) hln m2
      rw [← HI.out] at hMM
      have HMM := Lib.hid hMM
      have hcm2 : (w2.setCell ⟨A, i, none⟩ (.pointer (some ⟨g, 0, none⟩))).cell? ⟨A, i, none⟩ = some (.pointer (some ⟨g, 0, none⟩)) := by
        rw [cell_blk (hp_sc (j := i) (v := .pointer (some ⟨g, 0, none⟩)) hal), Array.getElem?_setIfInBounds_self_of_lt]
        rw [List.size_toArray, List.length_append, List.length_map, List.length_replicate, ← HI.out]
        omega
      clear hln m2 hal hMM
      go_wp2_with fail
      go_roundw
      case rel => exact ⟨hs ++ [(⟨g, 0, u, []⟩ : PL)], by rw [List.length_append, ← HI.out]; exact hlt, by rw [List.length_append, ← HI.out]; go_num, HMM.out⟩
      case measure => simp [intOf]; omega
    · have hl3 : hs.length = 3 := by omega
      have HL := Lib.hid (HMA.out.lst hl3)
      have h3 : ((hs.length : Nat) : Int) = 3 := by rw [hl3]; rfl
      rw [h3]
      clear hl3 HMA hlt hl h3
      go_wp2_with fail
      generalize ([⟨0, .slice none 0 0, []⟩, ⟨0, .slice none 0 0, []⟩, ⟨0, .slice none 0 0, []⟩] : List QL) = ys0 at HL
      go_loopw [7] (fun iv wr => ∃ (i : Nat) (xs : List PL) (ys : List QL), i ≤ nz ∧ iv = .int .i64 i ∧ LSt w wr A (A + 1) xs ys) (fun iv _ => nz - (intOf iv).toNat)
      case atStart => exact ⟨0, hs, ys0, by omega, rfl, HL.out⟩
      case round =>
        clear HL
        obtain ⟨i, xs, ys, hi, rfl, hst⟩ := hrel
        have HS := Lib.hid hst
        clear hst
        by_cases hlt : i < nz
        · obtain ⟨x, hxi⟩ : ∃ x, zs[i]? = some x := ⟨zs[i]'(by have := HNZ.out; omega), List.getElem?_eq_getElem _⟩
          have HXI := Lib.hid (HX.out x (List.mem_of_getElem? hxi))
          obtain ⟨b, o, rfl, hc⟩ := HR.out.elem Lo.cells_len i x hxi
          have hcr : wr.rangeAt b (o + i * 5) x.cells := range_mod HS.out.mod hc (by simp)
          have hL : (LoadO 80 (.pointer (some ⟨b, o + i * 5, none⟩))).run Tryd.prog wr = .ok (.agg x.cells.toArray) wr := loadO_mid hcr Tryd.underlying80 rfl (by rw [Lo.cells_len]; exact info80')
          simp only [Lo.cells] at hL
          have f1 : (0 : Int) ≤ (i : Int) := by omega
          have f2 : (i : Int) < (nz : Int) := by omega
          clear hc hcr hxi
          go_wp2_with fail
          refine (pick_any x.on 3 _ HXI.out.o0 HXI.out.o1 (by decide) (by decide)).mono ?_
          rintro e W ⟨k, hk3, rfl, hW⟩
          obtain ⟨o9, ho9⟩ : ∃ o9, o9 = wr.heap.size := ⟨_, rfl⟩
          have MW : Mod [] wr W := by rw [hW]; exact (Mod.refl [] wr).alloc _
          have HO9 := Lib.hid (show W.heap[o9]? = some (.cells x.cells.toArray 80) by rw [hW]; exact hp_new _ _ _ ho9)
          have HSW := Lib.hid (HS.out.mod0 MW)
          have HOB := Lib.hid (show w.heap.size ≤ o9 from by rw [ho9]; exact HS.out.mod.size)
          rw [← ho9]
          have hk : k < 3 := by omega
          clear hW MW hL HS ho9 hk3
          obtain ⟨px, hpx⟩ := HSW.out.p.get hk
          obtain ⟨qy, hqy⟩ := HSW.out.q.get hk
          obtain ⟨he1, he2⟩ := HSW.out.eq k px qy hpx hqy
          have HPX := Lib.hid hpx
          have HQY := Lib.hid hqy
          have HE1 := Lib.hid he1
          have HE2 := Lib.hid he2
          have f3 : (0 : Int) ≤ (k : Int) := by omega
          have f4 : (k : Int) < 3 := by omega
          have c9 : ∀ j v, x.cells[j]? = some v → W.cell? ⟨o9, j, none⟩ = some v := fun j v h => by rw [cell_blk HO9.out, List.getElem?_toArray]; exact h
          have a0 := c9 0 _ rfl
          have a2 := c9 2 _ rfl
          have a3 := c9 3 _ rfl
          have a4 := c9 4 _ rfl
          clear hpx hqy he1 he2 c9
          have hkd : x.kind = 1 ∨ x.kind = 2 ∨ x.kind = 3 ∨ x.kind = 4 ∨ x.kind = 5 ∨ x.kind = 6 ∨ x.kind = 7 ∨ (x.kind ≠ 1 ∧ x.kind ≠ 2 ∧ x.kind ≠ 3 ∧ x.kind ≠ 4 ∧ x.kind ≠ 5 ∧ x.kind ≠ 6 ∧ x.kind ≠ 7) := by omega
          rcases hkd with hkd | hkd | hkd | hkd | hkd | hkd | hkd | hkd
          · as_aux_lemma =>
              rw [hkd] at a0
              clear hkd a2 a4
              obtain ⟨n, hn⟩ : ∃ n, n = x.leaf.d.length := ⟨_, rfl⟩
              rw [← hn] at a3
              have hn20 : n ≤ 1048576 := by rw [hn]; exact HXI.out.ll
              have HN := Lib.hid hn
              have hle := lent_any x.leaf.p x.leaf.cap x.leaf.d W (HXI.out.leaf.mod0 HSW.out.mod) (by omega)
              rw [← hn] at hle
              have HLE := Lib.hid hle
              clear hn hle
              go_wp2_with fail
              refine HLE.out.mono ?_
              rintro e w5 ⟨rfl, hb5, m5⟩
              obtain ⟨e1, he1⟩ : ∃ e1, e1 = W.heap.size := ⟨_, rfl⟩
              rw [← he1] at hb5 ⊢
              have HB5 := Lib.hid hb5
              have HE1N := Lib.hid (show (∀ y ∈ xs, y.g ≠ e1) ∧ (∀ y ∈ xs, y.v.ownBlock ≠ some e1) from by
                rw [he1]
                exact ⟨fun y hy => by have := (HSW.out.p.each y hy).lt; omega, fun y hy h => by have := (HSW.out.p.each y hy).own.lt _ h; omega⟩)
              have HS5 := Lib.hid (HSW.out.mod0 m5)
              have HO5 := Lib.hid (m5.get0 HO9.out)
              have cA := HS5.out.p.cell HPX.out
              unfold lptr at cA
              have a35 : w5.cell? ⟨o9, 3, none⟩ = some (.slice x.leaf.p n x.leaf.cap) := by rw [cell_blk HO5.out, HN.out]; rfl
              have hpe := HS5.out.p.each px (List.mem_of_getElem? HPX.out)
              have HPE := Lib.hid hpe
              have hsl70 : (n : Int) ≤ (n : Int) + 70 := by omega
              have g0 : (0 : Int) ≤ (n : Int) := by omega
              clear m5 hb5 he1 hpe a0 a3
              go_wp2_with fail
              go_still_tail 8, (by kernel_rfl)
              go_wp2_with fail
              have hd6 := HS5.out.mod0 ((Mod.refl [] w5).drew)
              have HS6 := Lib.hid hd6
              have he1l : e1 < w5.heap.size := lt_of_block HB5.out
              have HRE := Lib.hid (show Rd V8 w5.drew (some ⟨e1, 0, none⟩) (n + 70) x.leaf.d from rd_front (hp_drew HB5.out) (by rw [HN.out]; omega))
              obtain ⟨pu, cu, hu, hru, _⟩ := (HS6.out.q.each qy (List.mem_of_getElem? HQY.out)).rd
              have HU := Lib.hid hu
              have HRU := Lib.hid hru
              have hq32 : All32 qy.front := by rw [← HE2.out]; exact HPE.out.a32
              have hq41 : qy.front.length ≤ 41 := by rw [← HE2.out]; exact HPE.out.len
              have HQ32 := Lib.hid hq32
              clear hd6 hru hq32 hu
              obtain ⟨N, hN1⟩ : ∃ N, N = addN px.size := ⟨_, rfl⟩
              obtain ⟨s1, hs1⟩ : ∃ s1, s1 = addS px.size := ⟨_, rfl⟩
              obtain ⟨f1, hf1⟩ : ∃ f1, f1 = addFr hf px.size px.front x.leaf.d := ⟨_, rfl⟩
              have hadd := add_all w.heap.size px.g px.size px.v px.front (some ⟨e1, 0, none⟩) n (n + 70) x.leaf.d w5.drew (HS6.out.p.each px (List.mem_of_getElem? HPX.out)) HN.out HRE.out (by have := HXI.out.ll; omega) (HH.out.mod0 HS6.out.mod) (HT.out.mod0 HS6.out.mod)
              have hradd := fun (V : World) (B : Nat) (hB : B ≤ V.heap.size) (ho : OwnD V B (.slice pu qy.front.length cu) qy.front) => radd_all (hf := hf) B qy.size _ cu pu qy.front x.leaf.p n x.leaf.cap x.leaf.d V (by rw [← HE1.out]; exact HPE.out.sz) hB rfl ho HQ32.out (by rw [← HE2.out, ← HE1.out]; exact HPE.out.cnt) HN.out
              rw [← HE1.out, ← HE2.out] at hradd
              rw [← hN1, ← hs1, ← hf1] at hadd hradd
              have HRADD := Lib.hid hradd
              clear hradd hN1 hs1 hf1
              refine hadd.mono ?_
              clear hadd
              rintro e w6 ⟨rfl, hA⟩
              have hpm := List.mem_of_getElem? HPX.out
              obtain ⟨v', hP, hov⟩ := HS6.out.p.add HPX.out hA
              have hQ : QSt w6 w.heap.size (A + 1) ys := HS6.out.q.mod hA.mod (fun hm => by
                  rcases mem_foot hm with hm | hm
                  · exact blk_ne (HS6.out.p.each px hpm).blk HS6.out.q.dm (by decide) hm.symm
                  · exact own_ne_t (HS6.out.p.each px hpm).own HS6.out.q.dm (by decide) hm) (fun y hy z hz hyz => by
                  rcases mem_foot hz with rfl | hz
                  · exact own_ne (HS6.out.q.each y hy) (HS6.out.p.each px hpm).blk hyz
                  · exact HS6.out.x px hpm y hy z hz hyz)
              have hC : Cross (xs.set k ⟨px.g, s1, v', f1⟩) ys := HS6.out.x.setP k _ (fun y hy => fresh_ne hov (HS6.out.x px hpm y hy) (HS6.out.q.each y hy).lt)
              have hM6 : Mod [] w w6 := HS6.out.mod.trans hA.mod (fun z hz => by
                rcases mem_foot hz with rfl | hz
                · exact .inr HPE.out.base
                · exact .inr (HPE.out.own.row z hz))
              have hE6 := hA.mod.get (hp_drew HB5.out) (fun hm => by
                rcases mem_foot hm with hm | hm
                · exact HE1N.out.1 px hpm hm.symm
                · exact HE1N.out.2 px hpm hm)
              have hO6 := hA.mod.get (hp_drew HO5.out) (fun hm => by
                rcases mem_foot hm with hm | hm
                · exact blk_ne (HS6.out.p.each px hpm).blk (hp_drew HO5.out) (by decide) hm.symm
                · exact own_ne_t (HS6.out.p.each px hpm).own (hp_drew HO5.out) (by decide) hm)
              have a36 : w6.cell? ⟨o9, 3, none⟩ = some (.slice x.leaf.p n x.leaf.cap) := by rw [cell_blk hO6, HN.out]; rfl
              have HP6 := Lib.hid hP
              have HQ6 := Lib.hid hQ
              have HC6 := Lib.hid hC
              have HM6 := Lib.hid hM6
              have HO6 := Lib.hid hO6
              have hke := kept_any e1 (n + 70) x.leaf.d x.leaf.p x.leaf.cap x.leaf.d (n + 70) (by rw [HN.out]) rfl w6 (rd_whole hE6 (by rw [List.length_append, marks_length, HN.out]; exact Nat.le_refl _)) (HXI.out.leaf.mod0 hM6) (by have := HXI.out.ll; omega)
              rw [← HN.out, show (x.leaf.d == x.leaf.d) = true by simp] at hke
              have HKE := Lib.hid hke
              clear hA hP hQ hC hM6 hE6 hO6 hke cA a35
              go_wp2_with fail
              refine HKE.out.mono ?_
              rintro e w7 ⟨rfl, m7⟩
              have HP7 := Lib.hid (HP6.out.mod0 m7)
              have HQ7 := Lib.hid (HQ6.out.mod0 m7)
              have HM7 := Lib.hid (HM6.out.trans0 m7)
              have a37 : w7.cell? ⟨o9, 3, none⟩ = some (.slice x.leaf.p n x.leaf.cap) := by rw [cell_blk (m7.get0 HO6.out), HN.out]; rfl
              have d0 := HQ7.out.c0 HQY.out
              have d1 := HQ7.out.c1 HQY.out
              rw [HU.out] at d1
              rw [← HE1.out] at d0
              rw [← HE2.out] at d1
              have hq7 := HQ7.out.each qy (List.mem_of_getElem? HQY.out)
              rw [HU.out, ← HE2.out] at hq7
              have HQ7D := Lib.hid hq7
              have HB7 := Lib.hid (show w.heap.size ≤ w7.heap.size from HM7.out.size)
              have HRA := Lib.hid (fun (V : World) (m : Mod [] w7 V) => HRADD.out V w.heap.size (Nat.le_trans HM7.out.size m.size) (HQ7D.out.mod0 m) (HXI.out.leaf.mod0 (HM7.out.trans0 m)) (by have := HXI.out.ll; omega) (HH.out.mod0 (HM7.out.trans0 m)) (HRf.out.mod0 (HM7.out.trans0 m)))
              unfold lgV at HRA
              have hm1 := (Mod.refl [] w7).drew
              have hm2 := ((Mod.refl [] w7).alloc (.cells #[.int .i64 0, .slice none 0 0] 76)).drew
              have HB13 := Lib.hid (hp_drew (hp_new w7 (.cells #[.int .i64 0, .slice none 0 0] 76) _ rfl))
              have a37b := cell_mod0 ((Mod.refl [] w7).alloc (.cells #[.int .i64 0, .slice none 0 0] 76)) a37
              have d0b := cell_mod0 ((Mod.refl [] w7).alloc (.cells #[.int .i64 0, .slice none 0 0] 76)) d0
              have d1b := cell_mod0 ((Mod.refl [] w7).alloc (.cells #[.int .i64 0, .slice none 0 0] 76)) d1
              clear m7 hq7 a36
              go_upto_region 20 with fail
              go_cut [13, 14] from 86 to 94 (fun s13 s14 wx => ∃ (b13 : Nat) (pn : Option Addr) (cn : Nat), s13 = .pointer (some ⟨b13, 0, none⟩) ∧ s14 = .int .i64 N ∧ Cut13 w.heap.size s1 b13 pn cn f1 (.slice pu px.front.length cu) w7 wx)
              case first =>
                go_region_law (first
                  | (go_simp; go_at_call 50; with_reducible refine (HRA.out _ hm1).mono ?_
                     rintro _ w8 ⟨vn, rfl, hon, hov8, m8⟩
                     obtain ⟨pn, cn, rfl, _, _⟩ := hon.rd
                     have HON := Lib.hid hon
                     have HOV := Lib.hid hov8
                     have HCASE1 := Lib.hid (hm1.trans0 m8)
                     clear hon m8 hov8)
                  | (go_simp; go_at_call 50; with_reducible refine (HRA.out _ hm2).mono ?_
                     rintro _ w8 ⟨vn, rfl, hon, hov8, m8⟩
                     obtain ⟨pn, cn, rfl, _, _⟩ := hon.rd
                     have HON := Lib.hid hon
                     have HOV := Lib.hid hov8
                     have HCASE2 := Lib.hid (hm2.trans0 m8)
                     have hb13 := m8.get0 HB13.out
                     have k0 := cell_blk hb13 0
                     have k1 := cell_blk hb13 1
                     have l0 := frozen_blk hb13 0
                     have l1 := frozen_blk hb13 1
                     have HK13 := Lib.hid hb13
                     clear hon m8 hov8 hb13))
                all_goals
                  go_wp2_with fail
                  go_meet
                  case rel =>
                    first
                      | exact ⟨_, pn, cn, rfl, rfl, cut13A HON.out HOV.out HCASE1.out⟩
                      | exact ⟨_, pn, cn, rfl, rfl, cut13B HM7.out.size HON.out HOV.out HCASE2.out HK13.out⟩
              case rest =>
                obtain ⟨b13, pn, cn, rfl, rfl, hb13l, hb13, hon9, hov9, m9⟩ := hcut
                have c130 := cell_blk hb13 0
                have c131 := cell_blk hb13 1
                simp only [List.getElem?_toArray, List.getElem?_cons_zero, List.getElem?_cons_succ] at c130 c131
                have HP9 := HP7.out.mod0 m9
                have HQ9 := HQ7.out.mod0 m9
                have d09 := HQ9.c0 HQY.out
                have d19 := HQ9.c1 HQY.out
                have g09 := frozen_blk HQ9.dm (k * 2)
                have g19 := frozen_blk HQ9.dm (k * 2 + 1)
                have hx9 : ∀ y ∈ xs.set k ⟨px.g, s1, v', f1⟩, ∀ z, y.v.ownBlock = some z → (Value.slice pn f1.length cn).ownBlock ≠ some z := fun y hy z h1 h2 => by
                  rcases hov9 z h2 with h3 | h3
                  · have h4 := HC6.out y hy qy (List.mem_of_getElem? HQY.out) z h1
                    rw [HU.out, ← HE2.out] at h4
                    exact h4 h3
                  · have k1 := (HP7.out.each y hy).own.lt z h1
                    omega
                have hend := (LSt.putQ (k := k) ⟨s1, .slice pn f1.length cn, f1⟩ HP9 HQ9 HC6.out (HM7.out.trans0 m9) HSW.out.hA HSW.out.hD hk hon9 hx9 (fun j y z h1 h2 => by
                  rcases set_get (by rw [HQ9.len]; exact hk) h2 with ⟨hj, rfl⟩ | ⟨hj, h2⟩
                  · subst hj
                    rcases set_get (by rw [HSW.out.p.len]; exact hk) h1 with ⟨_, rfl⟩ | ⟨h3, _⟩
                    · exact ⟨rfl, rfl⟩
                    · exact absurd rfl h3
                  · rcases set_get (by rw [HSW.out.p.len]; exact hk) h1 with ⟨h3, _⟩ | ⟨_, h1⟩
                    · exact absurd h3 hj
                    · exact HSW.out.eq j y z h1 h2))
                dsimp only at hend
                have HEND := Lib.hid hend
                have hnm : (N != N) = false := by simp
                clear hend hb13 m9 hon9 hov9 HP9 HQ9 hx9 d0 d1 a37 a37b d0b d1b hm1 hm2
                go_wp2_with fail
                go_roundw
                case rel => exact ⟨i + 1, _, _, Nat.succ_le_of_lt hlt, by go_num, HEND.out⟩
                case measure => rw [intOf_int, intOf_int]; exact meas_ok nz i hlt
          · as_aux_lemma =>
              rw [hkd] at a0
              clear hkd
              have cA := HSW.out.p.cell HPX.out
              have d0 := HSW.out.q.c0 HQY.out
              unfold lptr at cA
              go_wp2_with fail
              refine (size_any w.heap.size px.g px.size px.v px.front _ (HSW.out.p.each px (List.mem_of_getElem? HPX.out))).mono ?_
              rintro e w5 ⟨rfl, rfl⟩
              rw [HE1.out]
              go_wp2_with fail
              go_roundw
              case rel => exact ⟨i + 1, xs, ys, by omega, by go_num, HSW.out⟩
              case measure => simp [intOf]; omega
          · as_aux_lemma =>
              rw [hkd] at a0
              clear hkd
              have cA := HSW.out.p.cell HPX.out
              unfold lptr at cA
              go_wp2_with fail
              refine (lroot_any w.heap.size px.g px.size px.v px.front _ (HSW.out.p.each px (List.mem_of_getElem? HPX.out)) (HH.out.mod0 HSW.out.mod)).mono ?_
              rintro e w5 ⟨rfl, m5⟩
              have hR32 := logRoot_len (hf := hf) HH.out.len (HSW.out.p.each px (List.mem_of_getElem? HPX.out)).a32
              have HRL := Lib.hid (show logRoot hf px.front = logRoot hf qy.front by rw [HE2.out])
              obtain ⟨RR, hRR⟩ : ∃ RR, RR = logRoot hf px.front := ⟨_, rfl⟩
              rw [← hRR] at hR32 HRL ⊢
              have HR32 := Lib.hid hR32
              have hS := storeNewD w5 RR hR32
              have m6 := m5.alloc (.cells (RR.map V8).toArray 24)
              have HS6 := HSW.out.mod0 m6
              have HB16 := Lib.hid (hp_new w5 (.cells (RR.map V8).toArray 24) _ rfl)
              have d0 := HS6.q.c0 HQY.out
              have d1 := HS6.q.c1 HQY.out
              obtain ⟨pu, cu, hu, hru, _⟩ := (HS6.q.each qy (List.mem_of_getElem? HQY.out)).rd
              rw [hu] at d1
              have ha32 : All32 qy.front := by rw [← HE2.out]; exact (HSW.out.p.each px (List.mem_of_getElem? HPX.out)).a32
              have hl41 : qy.front.length ≤ 64 := by rw [← HE2.out]; have := (HSW.out.p.each px (List.mem_of_getElem? HPX.out)).len; omega
              have HRR := Lib.hid (rlroot_any (hf := hf) qy.size _ cu pu qy.front _ rfl hru ha32 hl41 (HH.out.mod0 HS6.mod) (HRf.out.mod0 HS6.mod))
              have HSS := Lib.hid HS6
              unfold lgV at HRR
              clear hR32 m5 m6 HS6 hu hru ha32 hl41 hRR
              go_wp2_with fail
              refine HRR.out.mono ?_
              rintro e w7 ⟨rfl, m7⟩
              rw [← HRL.out]
              have hS7 := storeNewD w7 RR HR32.out
              have m8 := m7.alloc (.cells (RR.map V8).toArray 24)
              have hL1 := loadDv RR HR32.out (m8.get0 HB16.out)
              have hL2 := loadDv RR HR32.out (hp_new w7 (.cells (RR.map V8).toArray 24) _ rfl)
              have hNE := fun w => neqD w RR RR HR32.out HR32.out
              have hEG := eqGuardD
              have hRb : (RR == RR) = true := by simp
              have HEND := Lib.hid (HSS.out.mod0 m8)
              clear m7 m8 hS cA d0 d1
              go_wp2_with fail
              go_roundw
              case rel => exact ⟨i + 1, xs, ys, by omega, by go_num, HEND.out⟩
              case measure => simp [intOf]; omega
          · as_aux_lemma =>
              rw [hkd] at a0
              clear hkd
              have cA := HSW.out.p.cell HPX.out
              unfold lptr at cA
              have hpe := HSW.out.p.each px (List.mem_of_getElem? HPX.out)
              have hl41 := hpe.len
              have HP32 := Lib.hid hpe.a32
              go_wp2_with fail
              refine (front_any w.heap.size px.g px.size px.v px.front _ hpe).mono ?_
              rintro e w5 ⟨va, rfl, hoa, m5⟩
              obtain ⟨pa, ca, rfl, hra, _⟩ := hoa.rd
              have HS5 := Lib.hid (HSW.out.mod0 m5)
              have hpe5 := HS5.out.p.each px (List.mem_of_getElem? HPX.out)
              have cA5 := HS5.out.p.cell HPX.out
              unfold lptr at cA5
              have M5 := Lib.hid m5
              have HOA := Lib.hid hoa
              have HAL := Lib.hid hoa.lt
              clear m5 hoa hra cA hpe
              go_wp2_with fail
              refine (front_any w.heap.size px.g px.size px.v px.front _ hpe5).mono ?_
              rintro e w6 ⟨vb, rfl, hob, m6⟩
              obtain ⟨pb, cb, rfl, hrb, _⟩ := hob.rd
              have HS6 := Lib.hid (HS5.out.mod0 m6)
              have M6 := Lib.hid (M5.out.trans0 m6)
              have HOA6 := Lib.hid (HOA.out.mod0 m6)
              have HOB' := Lib.hid hob
              obtain ⟨_, _, e1, hra6, _⟩ := HOA6.out.rd
              injection e1 with e11 _ e12
              subst e11 e12
              have d1 := HS6.out.q.c1 HQY.out
              obtain ⟨pu, cu, hu, hru, _⟩ := (HS6.out.q.each qy (List.mem_of_getElem? HQY.out)).rd
              rw [hu] at d1
              have HSA := Lib.hid (fun (V : World) (m : Mod [] w6 V) => same_any px.front qy.front pa pu ca cu _ _ V rfl rfl (hra6.mod0 m) (hru.mod0 m) HP32.out (by rw [← HE2.out]; exact HP32.out) (by omega) (by rw [← HE2.out]; omega))
              have HSB := Lib.hid (fun (V : World) (m : Mod [] w6 V) => same_any px.front qy.front pb pu cb cu _ _ V rfl rfl (hrb.mod0 m) (hru.mod0 m) HP32.out (by rw [← HE2.out]; exact HP32.out) (by omega) (by rw [← HE2.out]; omega))
              have hbq : (px.front == qy.front) = true := by rw [HE2.out]; simp
              rw [hbq] at HSA HSB
              have HU := Lib.hid hu
              clear hob m6 hra6 hrb hru cA5 hpe5 HOA HS5 hu hbq
              go_wp2_with fail
              refine (HSA.out _ (Mod.refl [] w6)).mono ?_
              rintro e w7 ⟨rfl, m7⟩
              have d17 := (HS6.out.mod0 m7).q.c1 HQY.out
              rw [HU.out] at d17
              have M7 := Lib.hid m7
              clear d1 m7
              go_wp2_with fail
              refine (HSB.out _ M7.out).mono ?_
              rintro e w8 ⟨rfl, m8⟩
              have M8 := Lib.hid (M7.out.trans0 m8)
              clear d17 m8
              go_wp2_with fail
              refine (owned_any (.slice pa px.front.length ca) (.slice pb px.front.length cb) px.front px.front W.heap.size w8 (HOA6.out.mod0 M8.out) ((HOB'.out.mod0 M8.out).mono M5.out.size) (fun z h1 h2 => by have k1 := HAL.out z h1; have k2 := HOB'.out.row z h2; omega) (M6.out.trans0 M8.out).size (by omega) (by omega)).mono ?_
              rintro e w9 ⟨rfl, how⟩
              have M9 : Mod [] W w9 := (M6.out.trans0 M8.out).trans how.md (fun z hz => .inr (by
                rcases List.mem_append.1 hz with hz | hz
                · exact HOA6.out.row z (by cases h : (Value.slice pa px.front.length ca).ownBlock with
                    | none => rw [h] at hz; simp at hz
                    | some q => rw [h] at hz; simp at hz; rw [hz])
                · exact Nat.le_trans M5.out.size (HOB'.out.row z (by cases h : (Value.slice pb px.front.length cb).ownBlock with
                    | none => rw [h] at hz; simp at hz
                    | some q => rw [h] at hz; simp at hz; rw [hz]))))
              have HEND := Lib.hid (HSW.out.mod0 M9)
              clear how M9
              go_wp2_with fail
              go_roundw
              case rel => exact ⟨i + 1, xs, ys, by omega, by go_num, HEND.out⟩
              case measure => simp [intOf]; omega
          · as_aux_lemma =>
              rw [hkd] at a0
              clear hkd a3
              obtain ⟨n, hn⟩ : ∃ n, n = x.front.length := ⟨_, rfl⟩
              rw [← hn] at a4
              have hn20 : n ≤ 1048576 := by rw [hn]; exact HXI.out.lf
              have HN := Lib.hid hn
              have HLE := Lib.hid (lentPath_any x.fp x.fc n x.front W hn (HXI.out.front.mod0 HSW.out.mod) (by have := HXI.out.lf; omega))
              clear hn
              go_wp2_with fail
              refine HLE.out.mono ?_
              rintro e w5 ⟨rfl, hb5, m5⟩
              obtain ⟨e1, he1⟩ : ∃ e1, e1 = W.heap.size := ⟨_, rfl⟩
              rw [← he1] at hb5 ⊢
              have HB5 := Lib.hid hb5
              have HE1W := Lib.hid (show w.heap.size ≤ e1 from by rw [he1]; exact HSW.out.mod.size)
              have HE1L := Lib.hid he1
              have HE1V := Lib.hid (show (∀ y ∈ xs, y.v.ownBlock ≠ some e1) ∧ (∀ y ∈ ys, y.u.ownBlock ≠ some e1) from by
                rw [he1]
                exact ⟨fun y hy h => by have := (HSW.out.p.each y hy).own.lt _ h; omega, fun y hy h => by have := (HSW.out.q.each y hy).lt _ h; omega⟩)
              have HS5 := Lib.hid (HSW.out.mod0 m5)
              have HO5 := Lib.hid (m5.get0 HO9.out)
              have M5 := Lib.hid m5
              have a25 : w5.cell? ⟨o9, 2, none⟩ = some (.int .i64 x.size) := by rw [cell_blk HO5.out]; rfl
              have a45 : w5.cell? ⟨o9, 4, none⟩ = some (.slice x.fp n x.fc) := by rw [cell_blk HO5.out, HN.out]; rfl
              have hsl70 : (n : Int) ≤ (n : Int) + 9 := by omega
              have g0 : (0 : Int) ≤ (n : Int) := by omega
              have hrf : RdD w5 (some ⟨e1, 0, none⟩) (n + 9) x.front := by
                have h := (rdD_blk (l := x.front ++ mks 9) (m := []) (c := n + 9) (by rw [List.append_nil]; exact hb5) (by simp [mks_length, HN.out])).take x.front.length
                rwa [List.take_left' rfl] at h
              have HRS := Lib.hid (resume_any x.size (some ⟨e1, 0, none⟩) n (n + 9) x.front w5.drew HN.out (hrf.mod0 (Mod.refl [] w5).drew) HXI.out.f32 (by have := HXI.out.lf; omega))
              unfold ResPost at HRS
              obtain ⟨E, hE⟩ : ∃ E, E = resumeE x.size x.front := ⟨_, rfl⟩
              rw [← hE] at HRS
              have HEE := Lib.hid hE
              have HE15 := Lib.hid (lt_of_block hb5)
              clear m5 hb5 he1 a0 a2 a4 hrf hE
              go_upto_region 43 with fail
              go_cut [24, 25] from 170 to 180 (fun s24 s25 wx => s25 = .int .i64 E ∧ (if E = 0 then LogPost x.size.toNat x.front w5.drew s24 wx else s24 = .pointer none) ∧ Mod [] w5 wx)
              case first =>
                go_region_law (go_simp; go_at_call 56; with_reducible refine (HRS.out).mono ?_
                               rintro _ w6 ⟨v5, rfl, hif, m6⟩
                               have HIF := Lib.hid hif
                               have M6 := Lib.hid ((Mod.refl [] w5).drew.trans0 m6)
                               clear hif m6)
                all_goals
                  go_wp2_with fail
                  go_meet
                  case rel => exact ⟨rfl, HIF.out, M6.out⟩
              case rest =>
                obtain ⟨rfl, hif, m6⟩ := hcut
                have HIF := Lib.hid hif
                have M6 := Lib.hid m6
                have hO6 := m6.get0 HO5.out
                have hb6 := m6.get0 HB5.out
                have HO6 := Lib.hid hO6
                have HB6 := Lib.hid hb6
                have a26 : wc.cell? ⟨o9, 2, none⟩ = some (.int .i64 x.size) := by rw [cell_blk hO6]; rfl
                have a46 : wc.cell? ⟨o9, 4, none⟩ = some (.slice x.fp n x.fc) := by rw [cell_blk hO6, HN.out]; rfl
                have hke := keptPath_any e1 (n + 9) x.front x.fp x.fc n x.front (n + 9) HN.out rfl rfl wc (rdD_blk (l := x.front ++ mks 9) (m := []) (c := n + 9) (by rw [List.append_nil]; exact hb6) (by rw [List.length_append, mks_length, HN.out]; exact Nat.le_refl _)) (HXI.out.front.mod0 (HS5.out.mod.trans0 m6)) HXI.out.f32 HXI.out.f32 (by omega)
                rw [show (x.front == x.front) = true by simp] at hke
                have HKE := Lib.hid hke
                clear hif m6 hO6 hb6 hke a25 a45
                go_wp2_with fail
                refine HKE.out.mono ?_
                rintro e w7 ⟨rfl, m7⟩
                have M7 := Lib.hid (M6.out.trans0 m7)
                have MC7 := Lib.hid m7
                have a27 := cell_mod0 m7 a26
                have a47 := cell_mod0 m7 a46
                have hrr := rresume_any x.size x.fp n x.fc x.front w7 HN.out (HXI.out.front.mod0 (HS5.out.mod.trans0 M7.out)) (by have := HXI.out.lf; omega)
                unfold RResPost lgV at hrr
                rw [← HEE.out] at hrr
                have HRR := Lib.hid hrr
                clear hrr m7 a26 a46
                go_wp2_with fail
                refine HRR.out.mono ?_
                rintro e w8 ⟨zz, _, rfl, ⟨pv, nv, cv, rfl⟩, hif2, m8⟩
                have HIF2 := Lib.hid hif2
                have M8 := Lib.hid m8
                clear hif2 m8 a27 a47
                go_upto_region 46 with fail
                go_cut [206] from 193 to 206 (fun v wx => v = .bool false ∧ wx = w8.alloc (.cells #[.int .i64 zz, .slice pv nv cv] 76))
                case first =>
                  have hee : (E != E) = false := by simp
                  by_cases hE0 : E = 0
                  · subst hE0
                    have hif := HIF.out
                    rw [if_pos rfl] at hif
                    obtain ⟨g', u', rfl, _, _⟩ := hif
                    go_wp2_with fail
                    go_meet
                    case rel => exact ⟨rfl, rfl⟩
                  · have hif := HIF.out
                    rw [if_neg hE0] at hif
                    subst hif
                    have hE1 : (E != 0) = true := by simpa using hE0
                    go_wp2_with fail
                    go_meet
                    case rel => exact ⟨rfl, rfl⟩
                case rest =>
                  obtain ⟨rfl, hwc⟩ := hcut
                  obtain ⟨W9, hW9⟩ : ∃ W9, W9 = w8.alloc (.cells #[.int .i64 zz, .slice pv nv cv] 76) := ⟨_, rfl⟩
                  rw [← hW9] at hwc
                  have hwc2 := hwc.symm
                  clear hwc
                  subst hwc2
                  obtain ⟨b27, hb27⟩ : ∃ b27, b27 = w8.heap.size := ⟨_, rfl⟩
                  have m9 : Mod [] w7 W9 := by rw [hW9]; exact M8.out.alloc _
                  have M9 := Lib.hid m9
                  have HB27 := Lib.hid (show W9.heap[b27]? = some (.cells #[.int .i64 zz, .slice pv nv cv] 76) from by rw [hW9, hb27]; exact hp_new _ _ _ rfl)
                  have HB9 := Lib.hid (m9.get0 (MC7.out.get0 HB6.out))
                  have HS9 := Lib.hid (HS5.out.mod0 (M7.out.trans0 m9))
                  have HW9 := Lib.hid hW9
                  have HW58 := Lib.hid (show w5.heap.size ≤ w7.heap.size from M7.out.size)
                  have HW78 := Lib.hid (show w7.heap.size ≤ b27 from by rw [hb27]; exact M8.out.size)
                  rw [← hb27]
                  clear m9 hW9 hb27
                  go_wp2_with fail
                  go_loopw [29] (fun v wr => ∃ (j : Nat) (L : List Bs), j ≤ n + 9 ∧ v = .int .i64 j ∧ Hid (L.length = n + 9) ∧ wr.heap[e1]? = some (.cells (blkD L) 24) ∧ Mod [e1] W9 wr) (fun v _ => n + 9 - (intOf v).toNat)
                  case atStart => exact ⟨0, x.front ++ mks 9, by omega, rfl, Lib.hid (by rw [List.length_append, mks_length, HN.out]), HB9.out, Mod.refl _ _⟩
                  case round =>
                    obtain ⟨j, L, hj, rfl, HLL, hbl, hm⟩ := hrel
                    have HBL := Lib.hid hbl
                    have HMM := Lib.hid hm
                    clear hbl hm
                    by_cases hjl : j < n + 9
                    · have hS := storeD_at HBL.out mk88 mk88_len (j := j) (by rw [HLL.out]; exact hjl)
                      have hB := run_mk88 wr
                      obtain ⟨Z, hZ⟩ : ∃ Z, Z = blkD (L.set j mk88) := ⟨_, rfl⟩
                      rw [← hZ] at hS
                      obtain ⟨V, hV⟩ : ∃ V, V = dv mk88 := ⟨_, rfl⟩
                      rw [← hV] at hS hB
                      have HZ := Lib.hid hZ
                      have q0 : (0 : Int) ≤ (j : Int) := by omega
                      have q1 : (j : Int) < (n : Int) + 9 := by omega
                      clear hZ hV
                      go_wp2_with fail
                      go_roundw
                      case rel =>
                        refine ⟨j + 1, L.set j mk88, hjl, by go_num, Lib.hid (by rw [List.length_set]; exact HLL.out), ?_, HMM.out.setRow (.inl (List.mem_singleton.2 rfl)) _⟩
                        rw [HZ.out]
                        exact hp_setRow (cs := blkD (L.set j mk88)) HBL.out
                      case measure => rw [intOf_int, intOf_int]; omega
                    · have q1 : ¬ ((j : Int) < (n : Int) + 9) := by omega
                      have hSL := HS9.out.mod1 HMM.out HB9.out HE1W.out HE1V.out.1 HE1V.out.2
                      have HSL := Lib.hid hSL
                      by_cases hE0 : E = 0
                      · subst hE0
                        have hif := HIF.out
                        have hif2 := HIF2.out
                        rw [if_pos rfl] at hif hif2
                        obtain ⟨g', u', rfl, hln, _⟩ := hif
                        obtain ⟨rfl, hoy⟩ := hif2
                        have hlr := ((hln.mod0 MC7.out).mod0 M9.out).mod HMM.out (fun hm => by
                          rw [List.mem_singleton] at hm
                          have h1 : w5.heap.size ≤ g' := hln.base
                          have h2 := HE15.out
                          omega) (fun z hz hm => by
                          rw [List.mem_singleton] at hz
                          subst hz
                          have h1 : w5.heap.size ≤ z := hln.own.row _ hm
                          have h2 := HE15.out
                          omega)
                        obtain ⟨j1, j2, j3, j4⟩ := HS5.out.fresh hlr
                        have hoy9 : OwnD W9 w7.heap.size (.slice pv nv cv) x.front := by rw [HW9.out]; exact hoy.alloc _
                        have hoyr := (hoy9.mod HMM.out (fun z hz hm => by
                          rw [List.mem_singleton] at hz
                          subst hz
                          have h1 := hoy.row _ hm
                          have h2 := HE15.out
                          have h3 := HW58.out
                          omega)).mono (Nat.le_trans HS5.out.mod.size HW58.out)
                        have hpos : ((x.size.toNat : Nat) : Int) = x.size := by
                          have h := HEE.out
                          unfold resumeE at h
                          split at h
                          · simp at h
                          · omega
                        have hend := LSt.put (k := k) ⟨x.size.toNat, .slice pv nv cv, x.front⟩ hSL.p hSL.q hSL.x hSL.eq hSL.mod hSL.hA hSL.hD hk j4 j1 j2 j3 hoyr (fun x' hx' z h1 h2 => by
                          have h3 := (HS5.out.p.each x' hx').own.lt z h1
                          have h4 := hoy.row z h2
                          have h5 := HW58.out
                          omega) (fun z h1 h2 => by
                          have h3 := hln.own.lt z h1
                          have h4 := hoy.row z h2
                          have h5 := MC7.out.size
                          omega) ⟨rfl, rfl⟩
                        dsimp only at hend
                        rw [hpos] at hend
                        have HEND := Lib.hid hend
                        have cA := hSL.p.cell HPX.out
                        unfold lptr at cA
                        have fA : wr.frozen? ⟨A, k, none⟩ = false := frozen_blk hSL.p.am k
                        have q6 : QSt (wr.setCell ⟨A, k, none⟩ (.pointer (some ⟨g', 0, none⟩))) w.heap.size (A + 1) ys := hSL.q.offA hSL.p rfl
                        have d0 := q6.c0 HQY.out
                        have d1 := q6.c1 HQY.out
                        have g00 : (wr.setCell ⟨A, k, none⟩ (.pointer (some ⟨g', 0, none⟩))).frozen? ⟨A + 1, k * 2, none⟩ = false := frozen_blk q6.dm (k * 2)
                        have g01 : (wr.setCell ⟨A, k, none⟩ (.pointer (some ⟨g', 0, none⟩))).frozen? ⟨A + 1, k * 2 + 1, none⟩ = false := frozen_blk q6.dm (k * 2 + 1)
                        have hb27 := HMM.out.get HB27.out (fun hm => by
                          rw [List.mem_singleton] at hm
                          have h2 := HE15.out
                          have h3 := HW58.out
                          have h4 := HW78.out
                          omega)
                        have mA : Mod [A] wr (wr.setCell ⟨A, k, none⟩ (.pointer (some ⟨g', 0, none⟩))) := (Mod.refl [A] wr).setCell (.inl (by simp)) _
                        have hb27' := mA.get hb27 (by simpa using blk_ne hb27 hSL.p.am (by decide))
                        have c270 : (wr.setCell ⟨A, k, none⟩ (.pointer (some ⟨g', 0, none⟩))).cell? ⟨b27, 0, none⟩ = some (.int .i64 x.size) := by rw [cell_blk hb27']; rfl
                        have c271 : (wr.setCell ⟨A, k, none⟩ (.pointer (some ⟨g', 0, none⟩))).cell? ⟨b27, 1, none⟩ = some (.slice pv nv cv) := by rw [cell_blk hb27']; rfl
                        clear hln hoy hlr j1 j2 j3 j4 hoy9 hoyr hpos hend q6 hb27 hb27' hSL
                        go_wp2_with fail
                        go_roundw
                        case rel => exact ⟨i + 1, _, _, Nat.succ_le_of_lt hlt, by go_num, HEND.out⟩
                        case measure => rw [intOf_int, intOf_int]; exact meas_ok nz i hlt
                      · have hE1 : (E == 0) = false := by simpa using hE0
                        clear hSL
                        go_wp2_with fail
                        go_roundw
                        case rel => exact ⟨i + 1, _, _, Nat.succ_le_of_lt hlt, by go_num, HSL.out⟩
                        case measure => rw [intOf_int, intOf_int]; exact meas_ok nz i hlt
          · as_aux_lemma =>
              rw [hkd] at a0
              clear hkd
              have cA := HSW.out.p.cell HPX.out
              unfold lptr at cA
              have hpe := HSW.out.p.each px (List.mem_of_getElem? HPX.out)
              have hl41 := hpe.len
              have HPE := Lib.hid hpe
              go_wp2_with fail
              refine (front_any w.heap.size px.g px.size px.v px.front _ hpe).mono ?_
              rintro e w5 ⟨va, rfl, hoa, m5⟩
              obtain ⟨pa, ca, rfl, hra, _⟩ := hoa.rd
              have HS5 := Lib.hid (HSW.out.mod0 m5)
              have hpe5 := HS5.out.p.each px (List.mem_of_getElem? HPX.out)
              have cA5 := HS5.out.p.cell HPX.out
              unfold lptr at cA5
              have HRS := Lib.hid (resume_any (px.size : Int) pa _ ca px.front w5 rfl hra HPE.out.a32 (by omega))
              have hE : resumeE (px.size : Int) px.front = 0 := by unfold resumeE; rw [if_neg (by have := HPE.out.sz; omega), Int.toNat_natCast, if_neg (by simp [HPE.out.cnt])]
              have HE := Lib.hid hE
              clear m5 hoa hra cA hpe hE
              go_wp2_with fail
              refine (size_any w.heap.size px.g px.size px.v px.front _ hpe5).mono ?_
              rintro e w' ⟨rfl, rfl⟩
              clear hpe5 cA5
              go_wp2_with fail
              refine HRS.out.mono ?_
              rintro e w7 ⟨v5, rfl, hif, m7⟩
              rw [HE.out, if_pos rfl, Int.toNat_natCast] at hif
              rw [HE.out]
              obtain ⟨g', u', rfl, hln, _⟩ := hif
              obtain ⟨j1, j2, j3, j4⟩ := HS5.out.fresh hln
              have HS7 := HS5.out.mod0 m7
              have cA7 := HS7.p.cell HPX.out
              unfold lptr at cA7
              have fA : w7.frozen? ⟨A, k, none⟩ = false := frozen_blk HS7.p.am k
              have HEND := Lib.hid (HS7.putP hk HPX.out j4 j1 j2 j3)
              clear hln m7 j1 j2 j3 j4 HS7 HRS
              go_wp2_with fail
              go_roundw
              case rel => exact ⟨i + 1, _, _, by omega, by go_num, HEND.out⟩
              case measure => simp [intOf]; omega
          · as_aux_lemma =>
              rw [hkd] at a0
              clear hkd
              go_wp2_with fail
              refine (new_log _).mono ?_
              rintro e w5 ⟨_, rfl, g', u', rfl, hln, m5⟩
              obtain ⟨j1, j2, j3, j4⟩ := HSW.out.fresh hln
              have HS5 := HSW.out.mod0 m5
              have cA := HS5.p.cell HPX.out
              have fA : w5.frozen? ⟨A, k, none⟩ = false := frozen_blk HS5.p.am k
              have q6 : QSt (w5.setCell ⟨A, k, none⟩ (.pointer (some ⟨g', 0, none⟩))) w.heap.size (A + 1) ys := HS5.q.offA HS5.p rfl
              have d0 := q6.c0 HQY.out
              have d1 := q6.c1 HQY.out
              have g0 : (w5.setCell ⟨A, k, none⟩ (.pointer (some ⟨g', 0, none⟩))).frozen? ⟨A + 1, k * 2, none⟩ = false := frozen_blk q6.dm (k * 2)
              have g1 : (w5.setCell ⟨A, k, none⟩ (.pointer (some ⟨g', 0, none⟩))).frozen? ⟨A + 1, k * 2 + 1, none⟩ = false := frozen_blk q6.dm (k * 2 + 1)
              have HEND := Lib.hid (LSt.put (k := k) ⟨0, .slice none 0 0, []⟩ HS5.p HS5.q HS5.x HS5.eq HS5.mod HS5.hA HS5.hD hk j4 j1 j2 j3 (OwnN.nil _ _ _ _ _) (fun _ _ _ _ h => by cases h) (fun _ _ h => by cases h) ⟨rfl, rfl⟩)
              unfold lptr at cA
              clear hln m5 j1 j2 j3 j4 HS5 q6
              go_wp2_with fail
              go_roundw
              case rel => exact ⟨i + 1, _, _, by omega, by go_num, HEND.out⟩
              case measure => simp [intOf]; omega
          · as_aux_lemma =>
              obtain ⟨k1, k2, k3, k4, k5, k6, k7⟩ := hkd
              have e1 : (x.kind == 1) = false := by simp [k1]
              have e2 : (x.kind == 2) = false := by simp [k2]
              have e3 : (x.kind == 3) = false := by simp [k3]
              have e4 : (x.kind == 4) = false := by simp [k4]
              have e5 : (x.kind == 5) = false := by simp [k5]
              have e6 : (x.kind == 6) = false := by simp [k6]
              have e7 : (x.kind == 7) = false := by simp [k7]
              clear k1 k2 k3 k4 k5 k6 k7
              go_wp2_with fail
              go_roundw
              case rel => exact ⟨i + 1, xs, ys, by omega, by go_num, HSW.out⟩
              case measure => simp [intOf]; omega
        · as_aux_lemma =>
            clear hi
            go_wp2_with fail
            clear hlt
            go_loopw [35] (fun kv wr => ∃ k : Nat, k ≤ 3 ∧ kv = .int .i64 k ∧ LSt w wr A (A + 1) xs ys) (fun kv _ => 3 - (intOf kv).toNat)
            case atStart => exact ⟨0, by omega, rfl, HS.out⟩
            case round =>
              clear HS
              obtain ⟨k, hk3, rfl, hst⟩ := hrel
              have HSW := Lib.hid hst
              clear hst
              by_cases hk : k < 3
              · obtain ⟨px, hpx⟩ := HSW.out.p.get hk
                obtain ⟨qy, hqy⟩ := HSW.out.q.get hk
                obtain ⟨he1, he2⟩ := HSW.out.eq k px qy hpx hqy
                have HPX := Lib.hid hpx
                have HQY := Lib.hid hqy
                have HE1 := Lib.hid he1
                have HE2 := Lib.hid he2
                have hpe := HSW.out.p.each px (List.mem_of_getElem? hpx)
                have HP32 := Lib.hid hpe.a32
                have hl41 := hpe.len
                have f3 : (0 : Int) ≤ (k : Int) := by omega
                have f4 : (k : Int) < 3 := by omega
                have cA := HSW.out.p.cell HPX.out
                unfold lptr at cA
                have hR32 := logRoot_len (hf := hf) HH.out.len hpe.a32
                have HRL := Lib.hid (show logRoot hf px.front = logRoot hf qy.front by rw [HE2.out])
                have HRT := Lib.hid (fun (V : World) (m : Mod [] wr V) => lroot_any w.heap.size px.g px.size px.v px.front V (hpe.mod0 m) (HH.out.mod0 (HSW.out.mod.trans0 m)))
                have HFR := Lib.hid (fun (V : World) (m : Mod [] wr V) => front_any w.heap.size px.g px.size px.v px.front V (hpe.mod0 m))
                obtain ⟨RR, hRR⟩ : ∃ RR, RR = logRoot hf px.front := ⟨_, rfl⟩
                rw [← hRR] at hR32 HRL HRT
                have HR32 := Lib.hid hR32
                have HSZ := Lib.hid (size_any w.heap.size px.g px.size px.v px.front wr hpe)
                clear hpx hqy he1 he2 hpe hRR
                go_wp2_with fail
                refine HSZ.out.mono ?_
                rintro e w' ⟨rfl, rfl⟩
                go_wp2_with fail
                refine (HRT.out _ (Mod.refl [] wr)).mono ?_
                rintro e w5 ⟨rfl, m5⟩
                have hS := storeNewD w5 RR hR32
                have m6 := m5.alloc (.cells (RR.map V8).toArray 24)
                have M6 := Lib.hid m6
                have HB37 := Lib.hid (hp_new w5 (.cells (RR.map V8).toArray 24) _ rfl)
                have cA6 := (HSW.out.mod0 m6).p.cell HPX.out
                unfold lptr at cA6
                clear m5 m6 cA
                go_wp2_with fail
                refine (HFR.out _ M6.out).mono ?_
                rintro e w7 ⟨va, rfl, hoa, m7⟩
                obtain ⟨pa, ca, rfl, hra, _⟩ := hoa.rd
                have HS7 := Lib.hid ((HSW.out.mod0 M6.out).mod0 m7)
                have HB7 := Lib.hid (m7.get0 HB37.out)
                have HRA := Lib.hid hra
                have d0 := HS7.out.q.c0 HQY.out
                have d1 := HS7.out.q.c1 HQY.out
                obtain ⟨pu, cu, hu, hru, _⟩ := (HS7.out.q.each qy (List.mem_of_getElem? HQY.out)).rd
                rw [hu] at d1
                have HU := Lib.hid hu
                have HRU := Lib.hid hru
                have HRR := Lib.hid (rlroot_any (hf := hf) qy.size _ cu pu qy.front _ rfl hru (by rw [← HE2.out]; exact HP32.out) (by rw [← HE2.out]; omega) (HH.out.mod0 HS7.out.mod) (HRf.out.mod0 HS7.out.mod))
                unfold lgV at HRR
                clear hoa m7 hra hru hu hS cA6
                go_wp2_with fail
                refine HRR.out.mono ?_
                rintro e w8 ⟨rfl, m8⟩
                rw [← HRL.out]
                have hS8 := storeNewD w8 RR HR32.out
                have m9 := m8.alloc (.cells (RR.map V8).toArray 24)
                have HB8 := Lib.hid (m9.get0 HB7.out)
                have HB39 := Lib.hid (hp_new w8 (.cells (RR.map V8).toArray 24) _ rfl)
                have HS9 := Lib.hid (HS7.out.mod0 m9)
                have d19 := HS9.out.q.c1 HQY.out
                rw [HU.out] at d19
                have HSA := Lib.hid (same_any px.front qy.front pa pu ca cu _ _ _ rfl rfl (HRA.out.mod0 m9) (HRU.out.mod0 m9) HP32.out (by rw [← HE2.out]; exact HP32.out) (by omega) (by rw [← HE2.out]; omega))
                rw [show (px.front == qy.front) = true by rw [HE2.out]; simp] at HSA
                clear m8 m9 d0 d1
                go_wp2_with fail
                refine HSA.out.mono ?_
                rintro e wa ⟨rfl, ma⟩
                have HSa := Lib.hid (HS9.out.mod0 ma)
                have d0a := HSa.out.q.c0 HQY.out
                have hL37 := loadDv RR HR32.out (ma.get0 HB8.out)
                have hL39 := loadDv RR HR32.out (ma.get0 HB39.out)
                have hNE := fun w => neqD w RR RR HR32.out HR32.out
                have hEG := eqGuardD
                have hRb : (RR == RR) = true := by simp
                rw [← HE1.out] at d0a
                clear ma hS8 d19
                go_wp2_with fail
                go_roundw
                case rel => exact ⟨k + 1, by omega, by go_num, HSa.out⟩
                case measure => simp [intOf]; omega
              · have hk' : k = 3 := by omega
                subst hk'
                go_wp2_with fail
                go_ret
                exact ⟨rfl, HSW.out.mod⟩
end Go.Proofs.YtbbobpjcbnfpfaaDoor
