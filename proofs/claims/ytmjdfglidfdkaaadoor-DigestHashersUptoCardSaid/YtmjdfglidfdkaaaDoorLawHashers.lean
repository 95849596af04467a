/- DigestHashers. Conditions: the three tables lie in their variables; at most 2^20 bytes together. -/
import Derived.Test.YtmjdfglidfdkaaaDoorHsLib
namespace Go.Proofs.YtmjdfglidfdkaaaDoor
open Go.RowKit
attribute [local go_sem high] one8 st8 cm8 b_and8 b_and8r b_and8l b_or8 b_or8r b_or8l b_xor8 b_xor8r b_xor8l b_andNot8 b_andNot8r b_andNot8l b_add8 b_add8r b_add8l b_sub8 b_sub8r b_sub8l b_mul8 b_mul8r b_mul8l b_eql8 b_eql8r b_eql8l b_neq8 b_neq8r b_neq8l b_lss8 b_lss8r b_lss8l b_leq8 b_leq8r b_leq8l b_gtr8 b_gtr8r b_gtr8l b_geq8 b_geq8r b_geq8l b_quo8r b_rem8r b_shl8r b_shr8r b_shl8l b_shr8l u_xor8 g_eql8 g_neq8 g_eql8' g_neq8' one32 st32 cm32 b_and32 b_and32r b_and32l b_or32 b_or32r b_or32l b_xor32 b_xor32r b_xor32l b_andNot32 b_andNot32r b_andNot32l b_add32 b_add32r b_add32l b_sub32 b_sub32r b_sub32l b_mul32 b_mul32r b_mul32l b_eql32 b_eql32r b_eql32l b_neq32 b_neq32r b_neq32l b_lss32 b_lss32r b_lss32l b_leq32 b_leq32r b_leq32l b_gtr32 b_gtr32r b_gtr32l b_geq32 b_geq32r b_geq32l b_quo32r b_rem32r b_shl32r b_shr32r b_shl32l b_shr32l u_xor32 g_eql32 g_neq32 g_eql32' g_neq32' one64 st64 cm64 b_and64 b_and64r b_and64l b_or64 b_or64r b_or64l b_xor64 b_xor64r b_xor64l b_andNot64 b_andNot64r b_andNot64l b_add64 b_add64r b_add64l b_sub64 b_sub64r b_sub64l b_mul64 b_mul64r b_mul64l b_eql64 b_eql64r b_eql64l b_neq64 b_neq64r b_neq64l b_lss64 b_lss64r b_lss64l b_leq64 b_leq64r b_leq64l b_gtr64 b_gtr64r b_gtr64l b_geq64 b_geq64r b_geq64l b_quo64r b_rem64r b_shl64r b_shr64r b_shl64l b_shr64l u_xor64 g_eql64 g_neq64 g_eql64' g_neq64' c_u8_u8 c_u8_u32 c_u8_u64 c_i_u8 c_u32_u8 c_u32_u32 c_u32_u64 c_i_u32 c_u64_u8 c_u64_u32 c_u64_u64 c_i_u64 c_u8_i c_u32_i
attribute [local go_sem ↓] ce8 ce32 ce64
theorem loadO46 (p : Value) : Instr.loadAt 46 p = LoadO 46 p := rfl
attribute [local go_sem ↓] loadO26 storeO26 loadO46
attribute [local irreducible] compress hst laidOf fin refOf
theorem info46 : (Tryd.prog.info? 46).map (·.size) = some 4 := by kernel_rfl
theorem nilptr_set (hs : List Nat) (g r : Nat) : ((hs.map ptr ++ List.replicate (r + 1) (Value.pointer none)).set hs.length (ptr g)) = (hs ++ [g]).map ptr ++ List.replicate r (Value.pointer none) := by
  rw [List.set_append_right _ _ (by simp), List.length_map, Nat.sub_self, List.replicate_succ, List.set_cons_zero]
  simp
set_option maxRecDepth 100000 in
set_option maxHeartbeats 4000000 in
theorem hashers_law (pp : Option Addr) (cp : Nat) (xs : List OpR) (w : World) (hr : RdN 4 OpR.cells w pp cp xs) (hx : ∀ x ∈ xs, Rd V8 w x.sl.p x.sl.cap x.sl.d) (hb : ∀ x ∈ xs, (-9223372036854775808 ≤ x.on ∧ x.on ≤ 9223372036854775807) ∧ (-9223372036854775808 ≤ x.tt ∧ x.tt ≤ 9223372036854775807)) (ht : Tab w) (htr : TabR w) (htb : TabB w) (hl : opsTotal xs ≤ 1048576) (hn : xs.length ≤ 1048576) :
    Calls Tryd.prog 6 #[.slice pp xs.length cp] w fun e w' => e = .returned (.bool true) ∧ Mod [] w w' := by
  have HR := Lib.hid hr
  have HX := Lib.hid hx
  have HB := Lib.hid hb
  have HT := Lib.hid ht
  have HTR := Lib.hid htr
  have HTB := Lib.hid htb
  clear hr hx hb ht htr htb
  go_enter Tryd.func6, Tryd.ntmps6
  go_wp2_with fail
  refine (awake_any w HT.out).mono ?_
  rintro e w1 ⟨rfl, m1⟩
  go_wp2_with fail
  refine (written_any pp cp xs w1 (HR.out.mod0 m1) hl (by omega)).mono ?_
  rintro e w2 ⟨rfl, rfl⟩
  go_wp2_with fail
  obtain ⟨H, hH⟩ : ∃ H, H = w2.heap.size := ⟨_, rfl⟩
  have hHw := m1.size
  rw [← hH] at hHw
  obtain ⟨W1, hW1⟩ : ∃ W1, W1 = (w2.alloc (.cells #[.pointer none, .pointer none, .pointer none, .pointer none] 43)).alloc (.cells #[.slice none 0 0, .slice none 0 0, .slice none 0 0, .slice none 0 0] 44) := ⟨_, rfl⟩
  have M1 : Mod [] w W1 := by rw [hW1]; exact (m1.alloc _).alloc _
  have HM0 := Lib.hid (show W1.heap[H]? = some (.cells (([] : List Nat).map ptr ++ List.replicate 4 (Value.pointer none)).toArray 43) by rw [hW1]; exact hp_old (hp_new _ _ _ hH))
  have TM0 := Lib.hid (show W1.heap[H + 1]? = some (.cells ((List.replicate 4 nilSl).map SlR.v).toArray 44) by rw [hW1]; exact hp_new _ _ _ (by simp [hH]))
  rw [← hW1, ← hH]
  clear hW1 hH m1
  go_loopw [7] (fun iv wr => ∃ (i : Nat) (hs : List Nat), i ≤ 4 ∧ iv = .int .i64 i ∧ hs.length = i ∧ wr.heap[H]? = some (.cells (hs.map ptr ++ List.replicate (4 - i) (Value.pointer none)).toArray 43 (0, 0)) ∧ wr.heap[H + 1]? = some (.cells ((List.replicate 4 nilSl).map SlR.v).toArray 44 (0, 0)) ∧ (∀ g ∈ hs, IsHash wr g [] ∧ w.heap.size ≤ g) ∧ hs.Nodup ∧ Mod [] w wr) (fun iv _ => 4 - (intOf iv).toNat)
  case atStart => exact ⟨0, [], by omega, rfl, rfl, HM0.out, TM0.out, by simp, List.nodup_nil, M1⟩
  case round =>
    clear HM0 TM0 M1
    obtain ⟨i, hs, hi, rfl, hsl, hmem, tmem, hhs, hnd, hm⟩ := hrel
    have HMEM := Lib.hid hmem
    have TMEM := Lib.hid tmem
    have HHS := Lib.hid hhs
    have HND := Lib.hid hnd
    have HSL := Lib.hid hsl
    clear hmem tmem hhs hnd hsl
    by_cases hlt : i < 4
    · have hHl : H < wr.heap.size := lt_of_block HMEM.out
      go_wp2_with fail
      refine (new_any wr).mono ?_
      rintro e w5 ⟨g, rfl, hg, hh, m5⟩
      have HME5 := Lib.hid (m5.get0 HMEM.out)
      have hcm : w5.cell? ⟨H, i, none⟩ = some (.pointer none) := by
        rw [cell_blk HME5.out, List.getElem?_toArray, List.getElem?_append_right (by rw [List.length_map, HSL.out]; omega), List.length_map, HSL.out, Nat.sub_self, show 4 - i = (3 - i) + 1 by omega]
        rfl
      have hfm : w5.frozen? ⟨H, i, none⟩ = false := frozen_blk HME5.out i
      have hset : Mod [H] w5 (w5.setCell ⟨H, i, none⟩ (ptr g)) := (Mod.refl [H] w5).setCell (.inl (by simp)) _
      have HSET := Lib.hid hset
      have HH := Lib.hid hh
      have HMOD := Lib.hid (hm.trans0 m5)
      have HT5 := Lib.hid (m5.get0 TMEM.out)
      have HHS5 := Lib.hid (fun g' hg' => (⟨(HHS.out g' hg').1.mod m5 (by simp), (HHS.out g' hg').2, (HHS.out g' hg').1.lt⟩ : IsHash w5 g' [] ∧ w.heap.size ≤ g' ∧ g' < wr.heap.size))
      have hgw := hm.size
      clear hh m5 hset hm HHS
      go_wp2_with fail
      go_roundw
      case rel =>
        have hty : ∀ g' l, IsHash w5 g' l → g' ∉ [H] := by
          intro g' l h
          obtain ⟨C, hb⟩ := isHash_type h
          rw [List.mem_singleton]; exact ne_of_type hb HME5.out (by decide)
        refine ⟨i + 1, hs ++ [g], by omega, by go_num, by rw [List.length_append, HSL.out]; rfl, ?_, HSET.out.get HT5.out (by simp), ?_, ?_, HMOD.out.setCell (.inr hHw) _⟩
        · have h := hp_sc (j := i) (v := ptr g) HME5.out
          rw [List.setIfInBounds_toArray, show 4 - i = (4 - (i + 1)) + 1 by omega] at h
          have h2 := nilptr_set hs g (4 - (i + 1))
          rw [HSL.out] at h2
          rw [h2] at h
          exact h
        · intro g' hg'
          rcases List.mem_append.1 hg' with hg' | hg'
          · exact ⟨(HHS5.out g' hg').1.mod HSET.out (hty _ _ (HHS5.out g' hg').1), (HHS5.out g' hg').2.1⟩
          · rw [List.mem_singleton] at hg'; subst hg'
            exact ⟨HH.out.mod HSET.out (hty _ _ HH.out), by omega⟩
        · refine List.nodup_append.2 ⟨HND.out, by simp, ?_⟩
          intro a ha b hb
          rw [List.mem_singleton] at hb; subst hb
          have := (HHS5.out a ha).2.2
          omega
      case measure => simp [intOf]; omega
    · have hi4 : i = 4 := by omega
      have hst : HSt w wr H (H + 1) hs ((List.replicate 4 nilSl).map (·.d)) (List.replicate 4 nilSl) := by
        have hm4 := HMEM.out
        rw [hi4, Nat.sub_self, List.replicate_zero, List.append_nil] at hm4
        refine ⟨hm4, TMEM.out, by rw [HSL.out]; exact hi4, by simp, by simp, ?_, HND.out, fun g hg => (HHS.out g hg).2, ?_, hm, ⟨hHw, by omega⟩⟩
        · intro k g l h1 h2
          have : l = [] := by
            rw [List.map_replicate, List.getElem?_replicate] at h2
            split at h2
            · injection h2 with h2; exact h2.symm
            · cases h2
          subst this
          exact (HHS.out g (List.mem_of_getElem? h1)).1
        · intro y hy
          rw [List.eq_of_mem_replicate hy]
          exact TookAt.nil _
      have HST := Lib.hid hst
      have hd : decide ((i : Int) < 4) = false := by simp; omega
      clear hst hi4 HMEM TMEM HHS HND HSL hm
      go_wp2_with fail
      go_loopw [8] (fun iv wr => ∃ (i : Nat) (hs : List Nat) (ts : List SlR), i ≤ xs.length ∧ iv = .int .i64 i ∧ HSt w wr H (H + 1) hs (ts.map (·.d)) ts ∧ (∀ y ∈ ts, y.d.length ≤ opsTotal (xs.take i))) (fun iv _ => xs.length - (intOf iv).toNat)
      case atStart => exact ⟨0, hs, _, by omega, rfl, HST.out, fun y hy => by rw [List.eq_of_mem_replicate hy]; exact Nat.zero_le _⟩
      case round =>
        clear HST
        obtain ⟨k, hs, ts, hk, rfl, hst, htb⟩ := hrel
        have HST := Lib.hid hst
        have HTBD := Lib.hid htb
        clear hst htb
        by_cases hlt : k < xs.length
        · obtain ⟨x, hxk⟩ : ∃ x, xs[k]? = some x := ⟨xs[k], List.getElem?_eq_getElem hlt⟩
          have hxm := List.mem_of_getElem? hxk
          obtain ⟨⟨ho0, ho1⟩, ht0, ht1⟩ := HB.out x hxm
          have hxd := HX.out x hxm
          obtain ⟨b, o, rfl, hc⟩ := HR.out.elem OpR.cells_length k x hxk
          have hcr : wr.rangeAt b (o + k * 4) x.cells := range_mod HST.out.mod hc (by simp)
          have hL : (LoadO 46 (.pointer (some ⟨b, o + k * 4, none⟩))).run Tryd.prog wr = .ok (.agg x.cells.toArray) wr := loadO_mid hcr Tryd.underlying46 rfl (by rw [OpR.cells_length]; exact info46)
          simp only [OpR.cells, SlR.v] at hL
          clear hc hcr hxm
          have HXK := Lib.hid hxk
          clear hxk
          go_wp2_with fail
          refine (pick_any x.on _ _ ho0 ho1 (by decide) (by decide)).mono ?_
          rintro e W ⟨r, hr4, rfl, hW⟩
          obtain ⟨o9, ho9⟩ : ∃ o9, o9 = wr.heap.size := ⟨_, rfl⟩
          have MW : Mod [] wr W := by rw [hW]; exact (Mod.refl [] wr).alloc _
          have HO9 := Lib.hid (show W.heap[o9]? = some (.cells #[.int .i64 x.kind, .int .i64 x.on, .int .i64 x.tt, .slice x.sl.p x.sl.d.length x.sl.cap] 46) by rw [hW]; exact hp_new _ _ _ ho9)
          have HSTW := Lib.hid (HST.out.mod0 MW)
          subst ho9
          have hr4' : r < 4 := by omega
          have hgl0 : ∀ g' ∈ hs, g' < wr.heap.size := HST.out.lt
          have HGL0 := Lib.hid hgl0
          have HMW := Lib.hid MW.size
          clear hW MW hL HST hgl0
          obtain ⟨g, hg⟩ : ∃ g, hs[r]? = some g := ⟨hs[r]'(by rw [HSTW.out.hl]; exact hr4'), List.getElem?_eq_getElem _⟩
          obtain ⟨y, hy⟩ : ∃ y, ts[r]? = some y := ⟨ts[r]'(by rw [HSTW.out.tl]; exact hr4'), List.getElem?_eq_getElem _⟩
          have hyl := HTBD.out y (List.mem_of_getElem? hy)
          have htot := opsTotal_take xs k
          have hsucc := opsTotal_take xs (k + 1)
          rw [opsTotal_succ xs k x HXK.out] at hsucc
          have hcH := HSTW.out.cellH hg
          have hcT := HSTW.out.cellT hy
          have hfH : W.frozen? ⟨H, r, none⟩ = false := frozen_blk HSTW.out.hmem r
          have hfT : W.frozen? ⟨H + 1, r, none⟩ = false := frozen_blk HSTW.out.tmem r
          have HASH := Lib.hid (HSTW.out.hashAt hg hy)
          have HG := Lib.hid hg
          have HY := Lib.hid hy
          have hkn : k + 1 ≤ xs.length := by omega
          have hb1 : ∀ y' ∈ ts, y'.d.length ≤ opsTotal (xs.take (k + 1)) := fun y' hy' => by
            have := HTBD.out y' hy'
            rw [opsTotal_succ xs k x HXK.out]
            omega
          have HB1 := Lib.hid hb1
          clear hg hy hb1 HTBD
          have hkd : x.kind = 1 ∨ x.kind = 2 ∨ x.kind = 3 ∨ x.kind = 4 ∨ x.kind = 5 ∨ x.kind = 6 ∨ (x.kind ≠ 1 ∧ x.kind ≠ 2 ∧ x.kind ≠ 3 ∧ x.kind ≠ 4 ∧ x.kind ≠ 5 ∧ x.kind ≠ 6) := by omega
          have hc0 : W.cell? ⟨wr.heap.size, 0, none⟩ = some (.int .i64 x.kind) := by rw [cell_blk HO9.out]; rfl
          have hc2 : W.cell? ⟨wr.heap.size, 2, none⟩ = some (.int .i64 x.tt) := by rw [cell_blk HO9.out]; rfl
          have hc3 : W.cell? ⟨wr.heap.size, 3, none⟩ = some (.slice x.sl.p x.sl.d.length x.sl.cap) := by rw [cell_blk HO9.out]; rfl
          rcases hkd with hkd | hkd | hkd | hkd | hkd | hkd | hkd
          · rw [hkd] at hc0
            clear hkd hc2
            have hxr := hxd.mod0 HSTW.out.mod
            have HXR := Lib.hid hxr
            go_wp2_with fail
            refine (lent_any x.sl.p x.sl.cap x.sl.d W hxr (by omega)).mono ?_
            rintro e w5 ⟨rfl, he5, m5⟩
            obtain ⟨e5, hee⟩ : ∃ e5, e5 = W.heap.size := ⟨_, rfl⟩
            subst hee
            have HST5 := Lib.hid (HSTW.out.mod0 m5)
            have HE5 := Lib.hid he5
            have HASH5 := Lib.hid (HASH.out.mod m5 (by simp))
            have HM5 := Lib.hid m5
            have hcH5 := HST5.out.cellH HG.out
            have hc35 : w5.cell? ⟨wr.heap.size, 3, none⟩ = some (.slice x.sl.p x.sl.d.length x.sl.cap) := by rw [cell_blk (m5.get0 HO9.out)]; rfl
            have HO95 := Lib.hid (m5.get0 HO9.out)
            clear m5 he5 hxr hcT hcH hfH hfT hc0 hc3
            go_wp2_with fail
            have hgw2 : w.heap.size ≤ g := HSTW.out.own g (List.mem_of_getElem? HG.out)
            have hgl : g < W.heap.size := HSTW.out.lt g (List.mem_of_getElem? HG.out)
            have HWR := Lib.hid (fun (w1 : World) (hm : Mod [] w5 w1) => write_any g y.d (some ⟨W.heap.size, 0, none⟩) (x.sl.d.length + 80) x.sl.d w1 (HASH5.out.mod hm (by simp)) ((rd_front HE5.out (by omega)).mod0 hm) (fun _ a ha => by injection ha with ha; subst ha; simp; omega) (Tab.mod (HST5.out.mod.trans0 hm) HT.out (by simp)) (by have := HT.out.lt; omega) (by omega))
            have hsl80 : (x.sl.d.length : Int) ≤ (x.sl.d.length : Int) + 80 := by omega
            go_still_tail 8, (by kernel_rfl)
            go_wp2_with fail
            refine (HWR.out _ ((Mod.refl [] w5).drew)).mono ?_
            rintro e w6 ⟨rfl, hh6, m6⟩
            have hge : W.heap.size ∉ [g] := by rw [List.mem_singleton]; omega
            have hgo : wr.heap.size ∉ [g] := by have := HGL0.out g (List.mem_of_getElem? HG.out); rw [List.mem_singleton]; omega
            have MW6 : Mod [g] W w6 := ((HM5.out.drew).mono (fun _ hx => by cases hx)).trans m6 (fun z hz => .inl hz)
            have HE6 := Lib.hid (m6.get (hp_drew HE5.out) hge)
            have HO96 := Lib.hid (m6.get (hp_drew HO95.out) hgo)
            have HST6 := Lib.hid (HSTW.out.write r g HG.out _ MW6 hh6)
            have HASH6 := Lib.hid hh6
            have hc36 : w6.cell? ⟨wr.heap.size, 3, none⟩ = some (.slice x.sl.p x.sl.d.length x.sl.cap) := by rw [cell_blk HO96.out]; rfl
            have hkq := kept_q W.heap.size (x.sl.d.length + 80) x.sl.d x.sl.p x.sl.cap x.sl.d (x.sl.d.length + 80) rfl rfl w6 (rd_whole HE6.out (by simp [marks_length])) (hxd.mod0 HST6.out.mod) (by omega)
            simp only [beq_self_eq_true] at hkq
            have HKQ := Lib.hid hkq
            clear m6 hh6 hkq hge hcH5 hc35 HWR HE5 HO95 HST5 HASH5
            go_wp2_with fail
            refine HKQ.out.mono ?_
            rintro e w' ⟨rfl, rfl⟩
            clear HKQ
            go_wp2_with fail
            refine (other_any x.sl.p x.sl.cap x.sl.d _ (hxd.mod0 HST6.out.mod) (by omega)).mono ?_
            rintro e w7 ⟨rfl, hO, m7⟩
            have HO := Lib.hid hO
            have HE7 := Lib.hid (m7.get0 HE6.out)
            have HO97 := Lib.hid (m7.get0 HO96.out)
            have HASH7 := Lib.hid (HASH6.out.mod m7 (by simp))
            have MW7 := MW6.trans0 m7
            clear hO m7 HE6 HO96 HASH6 HST6 hc36 MW6
            go_wp2_with (with_reducible refine froz_copy _ _ rfl ?_)
            unfold Froz
            have hol := otherOf_length x.sl.d
            refine wpList_copy8 rfl _ _ rfl W.heap.size 0 (x.sl.d.length + 80) (x.sl.d.length + 80) _ x.sl.d.length x.sl.d.length (otherOf x.sl.d) (x.sl.d ++ marks 80) rfl rfl HE7.out (rd_whole HO.out (by omega)) hol.symm (by simp [marks_length]) ?_
            have e1 : (x.sl.d ++ marks 80).take 0 ++ ((otherOf x.sl.d).take (x.sl.d.length + 80) ++ (x.sl.d ++ marks 80).drop (0 + min (otherOf x.sl.d).length (x.sl.d.length + 80))) = otherOf x.sl.d ++ marks 80 := by
              rw [List.take_zero, List.nil_append, List.take_of_length_le (by omega), show 0 + min (otherOf x.sl.d).length (x.sl.d.length + 80) = x.sl.d.length by omega, List.drop_left' rfl]
            rw [e1]
            obtain ⟨W8, hW8⟩ : ∃ W8, W8 = w7.setRow W.heap.size ((otherOf x.sl.d ++ marks 80).map V8).toArray := ⟨_, rfl⟩
            rw [← hW8]
            have MW8 : Mod [g] W W8 := by rw [hW8]; exact MW7.setRow (.inr (Nat.le_refl _)) _
            have HASH8 : IsHash W8 g (y.d ++ x.sl.d) := by
              rw [hW8]
              exact HASH7.out.mod ((Mod.refl [W.heap.size] w7).setRow (.inl (by simp)) _) (by rw [List.mem_singleton]; omega)
            have HO98 := Lib.hid (show W8.heap[wr.heap.size]? = some (.cells #[.int .i64 x.kind, .int .i64 x.on, .int .i64 x.tt, .slice x.sl.p x.sl.d.length x.sl.cap] 46) by rw [hW8]; exact hp_setRow_ne HO97.out (by have := lt_of_block HO9.out; omega))
            have HST8 := Lib.hid (HSTW.out.write r g HG.out _ MW8 HASH8)
            have hcT8 := HST8.out.cellT HY.out
            clear hW8 e1 hol HO HE7 HO97 HASH7 MW7 MW8 HASH8
            go_wp2_with fail
            clear hcT8
            refine (twin_any y.p y.cap y.d _ (HST8.out.took y (List.mem_of_getElem? HY.out)).rd (by omega)).mono ?_
            rintro e w9 ⟨rfl, htb9, m9⟩
            have HST9 := Lib.hid (HST8.out.mod0 m9)
            have HTW9 := Lib.hid (show TwinAt w9 ⟨some ⟨W8.heap.size, 0, none⟩, y.d.length, y.d⟩ from ⟨rfl, _, rfl, htb9⟩)
            have hc39 : w9.cell? ⟨wr.heap.size, 3, none⟩ = some (.slice x.sl.p x.sl.d.length x.sl.cap) := by rw [cell_blk (m9.get0 HO98.out)]; rfl
            have HM9 := Lib.hid m9
            clear htb9 m9 HO98
            go_wp2_with (at_builtin; with_reducible refine froz_app _ _ rfl ?_)
            unfold Froz
            have hown9 : Own w9 W8.heap.size (.slice (some ⟨W8.heap.size, 0, none⟩) y.d.length y.d.length) y.d := Own.of_twin HTW9.out (fun g' hg' => by injection hg' with hg'; injection hg' with hg'; omega) (by unfold maxLen; show y.d.length ≤ _; omega)
            refine wpList_pushAll rfl _ _ rfl W8.heap.size _ y.d hown9 rfl x.sl.p x.sl.d.length x.sl.cap x.sl.d rfl rfl (hxd.mod0 HST9.out.mod) (by omega) HM9.out.size ?_
            intro v' w10 ho10 hg10
            have M10 : Mod [] W8 w10 := HM9.out.of_grown hg10 (fun r' hr' => .inr (by injection hr' with hr'; simp only at hr'; omega))
            have HST10 := Lib.hid (HST8.out.mod0 M10)
            obtain ⟨y', rfl, hyd, htk⟩ := TookAt.of_own ho10
            have hcT10 := HST10.out.cellT HY.out
            have hfT10 : w10.frozen? ⟨H + 1, r, none⟩ = false := frozen_blk HST10.out.tmem r
            have HST11 := Lib.hid (HST10.out.setT r y' htk)
            have HYD := Lib.hid hyd
            clear ho10 hg10 M10 htk hyd hown9 HTW9 HST9 HST8 hc39
            unfold SlR.v
            go_wp2_with fail
            clear hcT10 hfT10
            go_roundw
            case rel =>
              have h11 := HST11.out
              rw [show y'.v = .slice y'.p (y.d ++ x.sl.d).length y'.cap by rw [SlR.v, HYD.out]] at h11
              refine ⟨k + 1, hs, ts.set r y', hkn, by go_num, by rw [List.map_set, HYD.out]; exact h11, ?_⟩
              intro y2 hy2
              rcases List.mem_or_eq_of_mem_set hy2 with hy2 | rfl
              · exact HB1.out y2 hy2
              · rw [HYD.out, List.length_append, opsTotal_succ xs k x HXK.out]; omega
            case measure => simp [intOf]; omega
          · rw [hkd] at hc0
            clear hkd hc2 hc3
            have hlen := len_any g y.d W HASH.out
            go_wp2_with fail
            refine hlen.mono ?_
            rintro e w' ⟨rfl, rfl⟩
            clear hlen
            go_wp2_with fail
            go_roundw
            case rel => exact ⟨k + 1, hs, ts, hkn, by go_num, HSTW.out, HB1.out⟩
            case measure => simp [intOf]; omega
          · rw [hkd] at hc0
            clear hkd hc2 hc3
            obtain ⟨X, SX⟩ := sums_of w y.d HT.out HTR.out HTB.out (by omega)
            have HXL := Lib.hid SX.len
            have hsum := sum_any g y.d W HASH.out (Tab.mod HSTW.out.mod HT.out (by simp))
            rw [← SX.eq] at hsum
            go_wp2_with fail
            refine hsum.mono ?_
            rintro e w5 ⟨rfl, m5⟩
            have HST5 := Lib.hid ((HSTW.out.mod0 m5).mod0 ((Mod.refl [] w5).alloc (.cells (X.map V8).toArray 26)))
            have HA5 := Lib.hid (hp_new w5 (.cells (X.map V8).toArray 26) _ rfl)
            have hS := storeNewD w5 X HXL.out
            have hcT5 := HST5.out.cellT HY.out
            clear m5 hsum hcT hcH hfH hfT
            go_wp2_with fail
            clear hS hcT5
            refine (SX.ref y.p y.cap y.d.length _ rfl (HST5.out.took y (List.mem_of_getElem? HY.out)).rd HST5.out.mod).mono ?_
            rintro e w6 ⟨rfl, m6⟩
            have HST6 := Lib.hid ((HST5.out.mod0 m6).mod0 ((Mod.refl [] w6).alloc (.cells (X.map V8).toArray 26)))
            have hL1 := loadDv X HXL.out (hp_old (o := (.cells (X.map V8).toArray 26)) (m6.get0 HA5.out))
            have hL2 := loadDv X HXL.out (hp_new w6 (.cells (X.map V8).toArray 26) _ rfl)
            have hS := storeNewD w6 X HXL.out
            have hN := fun w => neqD w X HXL.out
            have hGd := eqGuardD
            clear m6 HST5 HA5
            go_wp2_with fail
            clear hS hL1 hL2 hN hGd
            go_roundw
            case rel => exact ⟨k + 1, hs, ts, hkn, by go_num, HST6.out, HB1.out⟩
            case measure => simp [intOf]; omega
          · rw [hkd] at hc0
            clear hkd hc3
            have hcopy := copy_any g y.d W HASH.out
            go_wp2_with fail
            refine hcopy.mono ?_
            rintro e w5 ⟨g2, rfl, hg2, hh2, m5⟩
            have HST5 := Lib.hid (HSTW.out.mod0 m5)
            have HH2 := Lib.hid hh2
            have hg2n : g2 ∉ hs := fun hx => by have := HSTW.out.lt g2 hx; omega
            have HG2N := Lib.hid hg2n
            have hg2w : w.heap.size ≤ g2 := by have := HSTW.out.mod.size; omega
            have hc25 : w5.cell? ⟨wr.heap.size, 2, none⟩ = some (.int .i64 x.tt) := by rw [cell_blk (m5.get0 HO9.out)]; rfl
            clear m5 hh2 hg2n hcopy hcT hcH hfH hfT hc0 hc2
            go_wp2_with fail
            refine (pick_any x.tt _ _ ht0 ht1 (by decide) (by decide)).mono ?_
            rintro e w6 ⟨r2, hr2, rfl, rfl⟩
            have hr24 : r2 < 4 := by omega
            obtain ⟨gx, hgx⟩ : ∃ gx, hs[r2]? = some gx := ⟨hs[r2]'(by rw [HST5.out.hl]; exact hr24), List.getElem?_eq_getElem _⟩
            obtain ⟨yx, hyx⟩ : ∃ yx, ts[r2]? = some yx := ⟨ts[r2]'(by rw [HST5.out.tl]; exact hr24), List.getElem?_eq_getElem _⟩
            have hcH6 := HST5.out.cellH hgx
            have hfH6 : w6.frozen? ⟨H, r2, none⟩ = false := frozen_blk HST5.out.hmem r2
            have HST7 := Lib.hid (HST5.out.setH r2 g2 y.d HH2.out HG2N.out hg2w)
            have hcT7 : (w6.setCell ⟨H, r2, none⟩ (.pointer (some ⟨g2, 0, none⟩))).cell? ⟨H + 1, r, none⟩ = some (.slice y.p y.d.length y.cap) := HST7.out.cellT HY.out
            have HYX := Lib.hid hyx
            clear hgx hyx hc25
            go_wp2_with fail
            clear hcH6 hfH6 hcT7
            refine (twin_any y.p y.cap y.d _ (HST7.out.took y (List.mem_of_getElem? HY.out)).rd (by omega)).mono ?_
            rintro e w8 ⟨rfl, htb8, m8⟩
            have HST8 := Lib.hid (HST7.out.mod0 m8)
            obtain ⟨h8, hh8⟩ : ∃ h8, h8 = w6.heap.size := ⟨_, rfl⟩
            have HTW := Lib.hid (show TookAt w8 ⟨some ⟨h8, 0, none⟩, y.d.length, y.d⟩ from TookAt.of_twin ⟨rfl, h8, rfl, by rw [hh8]; simpa using htb8⟩)
            have hcT8 := HST8.out.cellT HYX.out
            have hfT8 : w8.frozen? ⟨H + 1, r2, none⟩ = false := frozen_blk HST8.out.tmem r2
            have HST9 := Lib.hid (HST8.out.setT r2 _ HTW.out)
            clear m8 htb8 HST7 HTW
            go_wp2_with fail
            clear hcT8 hfT8
            go_roundw
            case rel =>
              have h := HST9.out
              rw [hh8] at h
              refine ⟨k + 1, hs.set r2 g2, ts.set r2 ⟨some ⟨w6.heap.size, 0, none⟩, y.d.length, y.d⟩, hkn, by go_num, by rw [List.map_set]; exact h, ?_⟩
              intro y' hy'
              rcases List.mem_or_eq_of_mem_set hy' with hy' | rfl
              · exact HB1.out y' hy'
              · exact HB1.out y (List.mem_of_getElem? HY.out)
            case measure => simp [intOf]; omega
          · rw [hkd] at hc0
            clear hkd hc2 hc3
            have hres := reset_any g y.d W HASH.out
            go_wp2_with fail
            refine hres.mono ?_
            rintro e w5 ⟨rfl, hh5, m5⟩
            have HST5 := Lib.hid (HSTW.out.write r g HG.out [] m5 hh5)
            have hcT5 := HST5.out.cellT HY.out
            have hfT5 : w5.frozen? ⟨H + 1, r, none⟩ = false := frozen_blk HST5.out.tmem r
            have HST6 := Lib.hid (HST5.out.setT r nilSl (TookAt.nil _))
            clear m5 hh5 hres hcT hcH hfH hfT hc0
            go_wp2_with fail
            clear hcT5 hfT5
            go_roundw
            case rel =>
              refine ⟨k + 1, hs, ts.set r nilSl, hkn, by go_num, by rw [List.map_set]; exact HST6.out, ?_⟩
              intro y' hy'
              rcases List.mem_or_eq_of_mem_set hy' with hy' | rfl
              · exact HB1.out y' hy'
              · exact Nat.zero_le _
            case measure => simp [intOf]; omega
          · rw [hkd] at hc0
            clear hkd hc2 hc3
            go_wp2_with fail
            refine (new_any W).mono ?_
            rintro e w5 ⟨g2, rfl, hg2, hh2, m5⟩
            have HST5 := Lib.hid (HSTW.out.mod0 m5)
            have hg2n : g2 ∉ hs := fun hx => by have := HSTW.out.lt g2 hx; omega
            have hg2w : w.heap.size ≤ g2 := by have := HSTW.out.mod.size; omega
            have hcH5 := HST5.out.cellH HG.out
            have hfH5 : w5.frozen? ⟨H, r, none⟩ = false := frozen_blk HST5.out.hmem r
            have HST6 := Lib.hid (HST5.out.setH r g2 [] hh2 hg2n hg2w)
            have hcT6 : (w5.setCell ⟨H, r, none⟩ (.pointer (some ⟨g2, 0, none⟩))).cell? ⟨H + 1, r, none⟩ = some (.slice y.p y.d.length y.cap) := HST6.out.cellT HY.out
            have hfT6 : (w5.setCell ⟨H, r, none⟩ (.pointer (some ⟨g2, 0, none⟩))).frozen? ⟨H + 1, r, none⟩ = false := frozen_blk HST6.out.tmem r
            have HST7 := Lib.hid (HST6.out.setT r nilSl (TookAt.nil _))
            clear m5 hh2 hg2n hcT hcH hfH hfT hc0
            go_wp2_with fail
            clear hcH5 hfH5 hcT6 hfT6
            go_roundw
            case rel =>
              refine ⟨k + 1, hs.set r g2, ts.set r nilSl, hkn, by go_num, by rw [List.map_set]; exact HST7.out, ?_⟩
              intro y' hy'
              rcases List.mem_or_eq_of_mem_set hy' with hy' | rfl
              · exact HB1.out y' hy'
              · exact Nat.zero_le _
            case measure => simp [intOf]; omega
          · obtain ⟨n1, n2, n3, n4, n5, n6⟩ := hkd
            have k1 : (x.kind == 1) = false := by simpa using n1
            have k2 : (x.kind == 2) = false := by simpa using n2
            have k3 : (x.kind == 3) = false := by simpa using n3
            have k4 : (x.kind == 4) = false := by simpa using n4
            have k5 : (x.kind == 5) = false := by simpa using n5
            have k6 : (x.kind == 6) = false := by simpa using n6
            clear hc2 hc3
            go_wp2_with fail
            go_roundw
            case rel => exact ⟨k + 1, hs, ts, hkn, by go_num, HSTW.out, HB1.out⟩
            case measure => simp [intOf]; omega
        · have hd8 : decide ((k : Int) < (xs.length : Int)) = false := by simp; omega
          have htot := opsTotal_take xs k
          go_wp2_with fail
          go_loopw [20] (fun iv wr => ∃ i : Nat, i ≤ 4 ∧ iv = .int .i64 i ∧ HSt w wr H (H + 1) hs (ts.map (·.d)) ts) (fun iv _ => 4 - (intOf iv).toNat)
          case atStart => exact ⟨0, by omega, rfl, HST.out⟩
          case round =>
            clear HST
            obtain ⟨r, hr4, rfl, hst⟩ := hrel
            have HST := Lib.hid hst
            clear hst
            by_cases hlt4 : r < 4
            · obtain ⟨g, hg⟩ : ∃ g, hs[r]? = some g := ⟨hs[r]'(by rw [HST.out.hl]; exact hlt4), List.getElem?_eq_getElem _⟩
              obtain ⟨y, hy⟩ : ∃ y, ts[r]? = some y := ⟨ts[r]'(by rw [HST.out.tl]; exact hlt4), List.getElem?_eq_getElem _⟩
              have hyl := HTBD.out y (List.mem_of_getElem? hy)
              have HG := Lib.hid hg
              have HY := Lib.hid hy
              obtain ⟨X, SX⟩ := sums_of w y.d HT.out HTR.out HTB.out (by omega)
              have HXL := Lib.hid SX.len
              have hsum := fun (w1 : World) (h1 : HSt w w1 H (H + 1) hs (ts.map (·.d)) ts) => sum_any g y.d w1 (h1.hashAt hg hy) (Tab.mod h1.mod HT.out (by simp))
              rw [← SX.eq] at hsum
              have HSUM := Lib.hid hsum
              have hlen := len_any g y.d wr (HST.out.hashAt hg hy)
              have hcH := HST.out.cellH hg
              clear hg hy hsum
              go_wp2_with fail
              refine hlen.mono ?_
              rintro e w' ⟨rfl, rfl⟩
              clear hlen
              go_wp2_with fail
              refine (HSUM.out _ HST.out).mono ?_
              rintro e w5 ⟨rfl, m5⟩
              have HST5 := Lib.hid ((HST.out.mod0 m5).mod0 ((Mod.refl [] w5).alloc (.cells (X.map V8).toArray 26)))
              have A5 := Lib.hid (hp_new w5 (.cells (X.map V8).toArray 26) _ rfl)
              have hS := storeNewD w5 X HXL.out
              have hcH5 := HST5.out.cellH HG.out
              clear m5 hcH
              go_wp2_with fail
              clear hS hcH5
              refine (HSUM.out _ HST5.out).mono ?_
              rintro e w6 ⟨rfl, m6⟩
              have HST6 := Lib.hid ((HST5.out.mod0 m6).mod0 ((Mod.refl [] w6).alloc (.cells (X.map V8).toArray 26)))
              have A6 := Lib.hid (hp_old (o := (.cells (X.map V8).toArray 26)) (m6.get0 A5.out))
              have B6 := Lib.hid (hp_new w6 (.cells (X.map V8).toArray 26) _ rfl)
              have hS := storeNewD w6 X HXL.out
              have hcT6 := HST6.out.cellT HY.out
              clear m6 HST5 A5
              go_wp2_with fail
              clear hS hcT6
              refine (SX.ref y.p y.cap y.d.length _ rfl (HST6.out.took y (List.mem_of_getElem? HY.out)).rd HST6.out.mod).mono ?_
              rintro e w7 ⟨rfl, m7⟩
              have HST7 := Lib.hid ((HST6.out.mod0 m7).mod0 ((Mod.refl [] w7).alloc (.cells (X.map V8).toArray 26)))
              have hL1 := loadDv X HXL.out (hp_old (o := (.cells (X.map V8).toArray 26)) (m7.get0 A6.out))
              have hL2 := loadDv X HXL.out (hp_old (o := (.cells (X.map V8).toArray 26)) (m7.get0 B6.out))
              have hL3 := loadDv X HXL.out (hp_new w7 (.cells (X.map V8).toArray 26) _ rfl)
              have hS := storeNewD w7 X HXL.out
              have hcT7 := HST7.out.cellT HY.out
              have hN := fun w => neqD w X HXL.out
              have hGd := eqGuardD
              clear m7 HST6 A6 B6
              go_wp2_with fail
              clear hS hL1 hL2 hL3 hcT7 hN hGd
              go_roundw
              case rel => exact ⟨r + 1, by omega, by go_num, HST7.out⟩
              case measure => simp [intOf]; omega
            · have hd9 : decide ((r : Int) < 4) = false := by simp; omega
              go_wp2_with fail
              go_ret
              exact ⟨rfl, HST.out.mod⟩
end Go.Proofs.YtmjdfglidfdkaaaDoor
