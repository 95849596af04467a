/- ReadHex of the package. No condition. -/
import Derived.Test.YtmjdfglidfdkaaaDoorIdx
namespace Go.Proofs.YtmjdfglidfdkaaaDoor
open Go.RowKit
attribute [local go_sem high] one8 st8 cm8 b_and8 b_and8r b_and8l b_or8 b_or8r b_or8l b_xor8 b_xor8r b_xor8l b_andNot8 b_andNot8r b_andNot8l b_add8 b_add8r b_add8l b_sub8 b_sub8r b_sub8l b_mul8 b_mul8r b_mul8l b_eql8 b_eql8r b_eql8l b_neq8 b_neq8r b_neq8l b_lss8 b_lss8r b_lss8l b_leq8 b_leq8r b_leq8l b_gtr8 b_gtr8r b_gtr8l b_geq8 b_geq8r b_geq8l b_quo8r b_rem8r b_shl8r b_shr8r b_shl8l b_shr8l u_xor8 g_eql8 g_neq8 g_eql8' g_neq8' one32 st32 cm32 b_and32 b_and32r b_and32l b_or32 b_or32r b_or32l b_xor32 b_xor32r b_xor32l b_andNot32 b_andNot32r b_andNot32l b_add32 b_add32r b_add32l b_sub32 b_sub32r b_sub32l b_mul32 b_mul32r b_mul32l b_eql32 b_eql32r b_eql32l b_neq32 b_neq32r b_neq32l b_lss32 b_lss32r b_lss32l b_leq32 b_leq32r b_leq32l b_gtr32 b_gtr32r b_gtr32l b_geq32 b_geq32r b_geq32l b_quo32r b_rem32r b_shl32r b_shr32r b_shl32l b_shr32l u_xor32 g_eql32 g_neq32 g_eql32' g_neq32' one64 st64 cm64 b_and64 b_and64r b_and64l b_or64 b_or64r b_or64l b_xor64 b_xor64r b_xor64l b_andNot64 b_andNot64r b_andNot64l b_add64 b_add64r b_add64l b_sub64 b_sub64r b_sub64l b_mul64 b_mul64r b_mul64l b_eql64 b_eql64r b_eql64l b_neq64 b_neq64r b_neq64l b_lss64 b_lss64r b_lss64l b_leq64 b_leq64r b_leq64l b_gtr64 b_gtr64r b_gtr64l b_geq64 b_geq64r b_geq64l b_quo64r b_rem64r b_shl64r b_shr64r b_shl64l b_shr64l u_xor64 g_eql64 g_neq64 g_eql64' g_neq64' c_u8_u8 c_u8_u32 c_u8_u64 c_i_u8 c_u32_u8 c_u32_u32 c_u32_u64 c_i_u32 c_u64_u8 c_u64_u32 c_u64_u64 c_i_u64 c_u8_i c_u32_i
attribute [local go_sem ↓] ce8 ce32 ce64
attribute [local go_sem ↓] loadO26 storeO26
attribute [local irreducible] compress hst fin
def hexRd (l : List UInt8) (i : Nat) : UInt8 := 16 * readVal (l.getD (2 * i) 0) + readVal (l.getD (2 * i + 1) 0)
def hexFine (l : List UInt8) (i : Nat) : Bool := readVal (l.getD (2 * i) 0) ≤ 15 && readVal (l.getD (2 * i + 1) 0) ≤ 15
def hexGood (l : List UInt8) : Bool := l.length == 64 && (List.range 32).all (hexFine l)
def hexOut (l : List UInt8) : List UInt8 := if hexGood l then (List.range 32).map (hexRd l) else zeros 32
def hexErr (l : List UInt8) : Int := if hexGood l then 0 else 10
theorem index_str (w : World) (s : ByteArray) (z : Int) (k : Nat) (hz : z = k) (hk : k < s.size) : (Instr.index 9 (.string s) (.int .i64 z)).run Tryd.prog w = .ok (V8 (s.data.toList.getD k 0)) w := by
  subst hz
  rw [run_index_string w _ s .i64 k Tryd.underlying9]
  rw [dif_pos (by omega)]
  have h1 : k < s.data.toList.length := by simpa using hk
  simp only [Int.toNat_natCast, V8, List.getD_eq_getElem?_getD, List.getElem?_eq_getElem h1, Option.getD_some]
  rfl
theorem nib : ∀ a b : Fin 16, (UInt8.ofNat (16 * a.val + b.val) = 16 * UInt8.ofNat a.val + UInt8.ofNat b.val) := by decide +kernel
theorem nibs : ∀ a b : Fin 16, bits BinOp.or IntKind.i64 ((a.val : Int) * 16) (b.val : Int) % 256 = ((16 * UInt8.ofNat a.val + UInt8.ofNat b.val : UInt8).toNat : Int) := by decide +kernel
theorem hexGood_bad (l : List UInt8) (k : Nat) (hk : k < 32) (h : hexFine l k = false) : hexGood l = false := by
  unfold hexGood
  rw [Bool.and_eq_false_iff]
  refine .inr ?_
  rw [List.all_eq_false]
  exact ⟨k, by simpa using hk, by simp [h]⟩
theorem hexGood_all (l : List UInt8) (hl : l.length = 64) (h : ∀ i, i < 32 → hexFine l i = true) : hexGood l = true := by
  unfold hexGood
  rw [Bool.and_eq_true]
  exact ⟨by simpa using hl, by rw [List.all_eq_true]; intro i hi; exact h i (by simpa using hi)⟩
theorem loadDv' {w : World} {b : Nat} (p : List UInt8) (hp : p.length = 32) (hg : w.heap[b]? = some (.cells (p.map V8).toArray 26 (0, 0))) :
    (LoadO 26 (.pointer (some ⟨b, 0, none⟩))).run Tryd.prog w = .ok (dv p) w := loadD p hp hg
set_option maxHeartbeats 4000000 in
theorem readHex_any (s : ByteArray) (w : World) :
    Calls Tryd.prog 34 #[.string s] w fun e w' => e = .returned (.tuple #[dv (hexOut s.data.toList), .int .i64 (hexErr s.data.toList)]) ∧ Mod [] w w' := by
  have hsl : s.size = s.data.toList.length := by simp
  obtain ⟨l, hl⟩ : ∃ l, l = s.data.toList := ⟨_, rfl⟩
  rw [← hl]
  by_cases h64 : s.size = 64
  · have h64' : (s.size : Int) = 64 := by omega
    have HIX := Lib.hid (fun (w : World) (z : Int) (k : Nat) (hz : z = k) (hk : k < 64) => index_str w s z k hz (by omega))
    rw [← hl] at HIX
    have HL := Lib.hid hl
    have H64 := Lib.hid h64
    clear hl hsl h64
    go_enter Tryd.func34, Tryd.ntmps34
    go_wp2_with fail
    go_loopw [12] (fun v wr => ∃ (k : Nat) (ds : List UInt8), k ≤ 32 ∧ v = .int .i64 k ∧ ds.length = 32 ∧ ds.take k = (List.range k).map (hexRd l) ∧ (∀ i, i < k → hexFine l i = true) ∧ wr.heap[w.heap.size + 1]? = some (.cells (ds.map V8).toArray 26) ∧ (∃ Z : Array Value, Z.size = 32 ∧ wr.heap[w.heap.size]? = some (.cells Z 26)) ∧ Mod [] w wr) (fun v _ => 32 - (intOf v).toNat)
    case atStart => exact ⟨0, zeros 32, by omega, rfl, zeros_length 32, rfl, fun i hi => by omega, hp_new _ _ _ (by simp), ⟨_, by rfl, hp_old (hp_new _ _ _ rfl)⟩, ((Mod.refl [] w).alloc _).alloc _⟩
    case round =>
      obtain ⟨k, ds, hk, rfl, hds, htk, hfine, hbd, ⟨Z, hZ, hbr⟩, hm⟩ := hrel
      have HDS := Lib.hid hds
      have HTK := Lib.hid htk
      have HF := Lib.hid hfine
      have HBD := Lib.hid hbd
      have HBR := Lib.hid hbr
      have HZ := Lib.hid hZ
      clear hds htk hfine hbd hbr hZ
      by_cases hlt : k < 32
      · have hlt' : (k : Int) < 32 := by omega
        have hi1 := fun w => HIX.out w (2 * (k : Int)) (2 * k) (by omega) (by omega)
        have hi2 := fun w => HIX.out w (2 * (k : Int) + 1) (2 * k + 1) (by omega) (by omega)
        obtain ⟨c1, hc1⟩ : ∃ c, c = l.getD (2 * k) 0 := ⟨_, rfl⟩
        obtain ⟨c2, hc2⟩ : ∃ c, c = l.getD (2 * k + 1) 0 := ⟨_, rfl⟩
        rw [← hc1] at hi1
        rw [← hc2] at hi2
        have HC1 := Lib.hid hc1
        have HC2 := Lib.hid hc2
        clear hc1 hc2
        by_cases hf : readVal c1 ≤ 15 ∧ readVal c2 ≤ 15
        · obtain ⟨a, ha⟩ : ∃ a, a = (readVal c1).toNat := ⟨_, rfl⟩
          obtain ⟨b, hb⟩ : ∃ b, b = (readVal c2).toNat := ⟨_, rfl⟩
          have ha16 : a < 16 := by have := hf.1; rw [ha]; exact Nat.lt_succ_of_le this
          have hb16 : b < 16 := by have := hf.2; rw [hb]; exact Nat.lt_succ_of_le this
          have hd1 : digitVal c1 = (a : Int) := by rw [digitVal_eq, if_pos hf.1, ha]
          have hd2 : digitVal c2 = (b : Int) := by rw [digitVal_eq, if_pos hf.2, hb]
          have D1 := fun w => index_dig_any c1 w
          have D2 := fun w => index_dig_any c2 w
          rw [hd1] at D1
          rw [hd2] at D2
          have HD1 := Lib.hid D1
          have HD2 := Lib.hid D2
          have HA := Lib.hid ha
          have HB := Lib.hid hb
          clear ha hb hd1 hd2 D1 D2 hf
          have hcell : wr.cell? ⟨w.heap.size + 1, k, none⟩ = some (V8 (ds.getD k 0)) := by
            rw [cell_blk HBD.out]
            simpa using cell_map V8 ds k 0 (by rw [HDS.out]; exact hlt)
          have hfz : wr.frozen? ⟨w.heap.size + 1, k, none⟩ = false := frozen_blk HBD.out k
          obtain ⟨hx, hhx⟩ : ∃ hx : UInt8, hx = 16 * UInt8.ofNat a + UInt8.ofNat b := ⟨_, rfl⟩
          have hval := nibs ⟨a, ha16⟩ ⟨b, hb16⟩
          simp only [← hhx] at hval
          have HHX := Lib.hid hhx
          clear hhx
          go_wp2_with fail
          go_quiet ((first
            | (go_at_call 43; exact Calls.quiet_of_same (HD1.out _))
            | (go_at_call 43; exact Calls.quiet_of_same (HD2.out _))))
          go_wp2_with fail
          go_roundw
          case rel =>
            have he : hx = hexRd l k := by
              rw [HHX.out, HA.out, HB.out, HC1.out, HC2.out]
              simp [hexRd]
            have hff : hexFine l k = true := by
              unfold hexFine
              rw [← HC1.out, ← HC2.out]
              have h1 : readVal c1 ≤ 15 := by show (readVal c1).toNat ≤ 15; rw [← HA.out]; omega
              have h2 : readVal c2 ≤ 15 := by show (readVal c2).toNat ≤ 15; rw [← HB.out]; omega
              simp [h1, h2]
            refine ⟨k + 1, ds.set k hx, by omega, by go_num, by simpa using HDS.out, ?_, ?_, ?_, ⟨Z, HZ.out, ?_⟩, ?_⟩
            · rw [take_set_succ _ _ _ (by rw [HDS.out]; exact hlt), HTK.out, map_range_succ, he]
            · intro i hi
              rcases Nat.lt_or_ge i k with h | h
              · exact HF.out i h
              · rw [show i = k by omega]; exact hff
            · have h := hp_sc (j := k) (v := V8 hx) HBD.out
              rw [map_set] at h
              exact h
            · exact hp_sc_ne HBR.out (by omega)
            · exact (hm.drewN nq).setCell (.inr (by simp)) _
          case measure => simp [intOf]; omega
        · have hbad : hexFine l k = false := by
            unfold hexFine
            rw [← HC1.out, ← HC2.out]
            cases h1 : decide (readVal c1 ≤ 15) with
            | false => rfl
            | true =>
              cases h2 : decide (readVal c2 ≤ 15) with
              | false => rfl
              | true => exact absurd ⟨of_decide_eq_true h1, of_decide_eq_true h2⟩ hf
          have HBAD := Lib.hid hbad
          clear hbad
          by_cases hf1 : readVal c1 ≤ 15
          · have hf2 : ¬ readVal c2 ≤ 15 := fun h => hf ⟨hf1, h⟩
            obtain ⟨a, ha⟩ : ∃ a, a = (readVal c1).toNat := ⟨_, rfl⟩
            have hd1 : digitVal c1 = (a : Int) := by rw [digitVal_eq, if_pos hf1, ha]
            have hd2 : digitVal c2 = -1 := by rw [digitVal_eq, if_neg hf2]
            have D1 := fun w => index_dig_any c1 w
            have D2 := fun w => index_dig_any c2 w
            rw [hd1] at D1
            rw [hd2] at D2
            have HD1 := Lib.hid D1
            have HD2 := Lib.hid D2
            clear ha hd1 hd2 D1 D2 hf hf1 hf2
            go_wp2_with fail
            go_quiet ((first
              | (go_at_call 43; exact Calls.quiet_of_same (HD1.out _))
              | (go_at_call 43; exact Calls.quiet_of_same (HD2.out _))))
            have hS := storeDv (w := wr.drewN nq) (zeros 32) (zeros_length 32) (hp_drewN HBR.out) HZ.out
            change (StoreO _ _ (.agg _)).run _ _ = _ at hS
            go_wp2_with (refine wpList_built rfl 26 _ rfl ((zeros 32).map V8).toArray built26 ?_)
            refine bodyPost_ret (results_dv2 rfl _ _ _ _ (zeros_length 32) _ rfl (hp_setRow (hp_drewN HBR.out))) rfl ⟨?_, (hm.drewN nq).setRow (.inr (Nat.le_refl _)) _⟩
            have hg := hexGood_bad l k hlt HBAD.out
            simp [hexOut, hexErr, hg]
          · have hd1 : digitVal c1 = -1 := by rw [digitVal_eq, if_neg hf1]
            obtain ⟨z2, hz2⟩ : ∃ z, z = digitVal c2 := ⟨_, rfl⟩
            have D1 := fun w => index_dig_any c1 w
            have D2 := fun w => index_dig_any c2 w
            rw [hd1] at D1
            rw [← hz2] at D2
            have HD1 := Lib.hid D1
            have HD2 := Lib.hid D2
            clear hd1 hz2 D1 D2 hf hf1
            go_wp2_with fail
            go_quiet ((first
              | (go_at_call 43; exact Calls.quiet_of_same (HD1.out _))
              | (go_at_call 43; exact Calls.quiet_of_same (HD2.out _))))
            have hS := storeDv (w := wr.drewN nq) (zeros 32) (zeros_length 32) (hp_drewN HBR.out) HZ.out
            change (StoreO _ _ (.agg _)).run _ _ = _ at hS
            go_wp2_with (refine wpList_built rfl 26 _ rfl ((zeros 32).map V8).toArray built26 ?_)
            refine bodyPost_ret (results_dv2 rfl _ _ _ _ (zeros_length 32) _ rfl (hp_setRow (hp_drewN HBR.out))) rfl ⟨?_, (hm.drewN nq).setRow (.inr (Nat.le_refl _)) _⟩
            have hg := hexGood_bad l k hlt HBAD.out
            simp [hexOut, hexErr, hg]
      · have hkk : k = 32 := by omega
        have hd1 : decide ((k : Int) < 32) = false := by simp; omega
        have HK := Lib.hid hkk
        have hdso : ds = (List.range 32).map (hexRd l) := by
          have h := HTK.out
          rw [HK.out, List.take_of_length_le (by rw [HDS.out]; omega)] at h
          exact h
        have hgood : hexGood l = true := hexGood_all l (by have := H64.out; rw [HL.out]; simpa using this) (fun i hi => HF.out i (by omega))
        have hL := loadDv' ds HDS.out HBD.out
        have hS := storeDv ds HDS.out HBR.out HZ.out
        have HO := Lib.hid hdso
        have HG := Lib.hid hgood
        clear hkk hdso hgood
        go_wp2_with fail
        refine bodyPost_ret (results_dv2 rfl _ _ _ _ HDS.out _ rfl (hp_setRow HBR.out)) rfl ⟨?_, hm.setRow (.inr (Nat.le_refl _)) _⟩
        have hg := HG.out
        rw [HO.out]
        simp [hexOut, hexErr, hg]
  · have hS := fun (Z : Array Value) (hZ : Z.size = 32) => storeDv (w := (w.alloc (.cells Z 26)).alloc (.cells Z 26)) (zeros 32) (zeros_length 32) (hp_old (hp_new w _ _ rfl)) hZ
    change ∀ (Z : Array Value) (hZ : Z.size = 32), (StoreO _ _ (.agg _)).run _ _ = _ at hS
    have hne : ¬ (s.size : Int) = 64 := by omega
    have hbad : hexGood l = false := by
      unfold hexGood
      rw [Bool.and_eq_false_iff]
      exact .inl (by rw [hl]; simpa using h64)
    have HBAD := Lib.hid hbad
    clear hl hsl hbad
    go_enter Tryd.func34, Tryd.ntmps34
    go_wp2_with (refine wpList_built rfl 26 _ rfl ((zeros 32).map V8).toArray built26 ?_)
    refine bodyPost_ret (results_dv2 rfl _ _ _ _ (zeros_length 32) _ rfl (hp_setRow (hp_old (hp_new w _ _ rfl)))) rfl ⟨?_, (((Mod.refl [] w).alloc _).alloc _).setRow (.inr (Nat.le_refl _)) _⟩
    have hg := HBAD.out
    simp [hexOut, hexErr, hg]
end Go.Proofs.YtmjdfglidfdkaaaDoor
