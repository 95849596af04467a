/- WireLaysOnce, the walk: whatever the lists, true. Condition: at most 2^20 numbers each. -/
import Derived.Test.YtmjdfglidfdkaaaWlFns
namespace Go.Proofs.Ytmjdfglidfdkaaa
open Go.RowKit
attribute [local go_sem high] one8 st8 cm8 b_and8 b_and8r b_and8l b_or8 b_or8r b_or8l b_xor8 b_xor8r b_xor8l b_andNot8 b_andNot8r b_andNot8l b_add8 b_add8r b_add8l b_sub8 b_sub8r b_sub8l b_mul8 b_mul8r b_mul8l b_eql8 b_eql8r b_eql8l b_neq8 b_neq8r b_neq8l b_lss8 b_lss8r b_lss8l b_leq8 b_leq8r b_leq8l b_gtr8 b_gtr8r b_gtr8l b_geq8 b_geq8r b_geq8l b_quo8r b_rem8r b_shl8r b_shr8r b_shl8l b_shr8l u_xor8 g_eql8 g_neq8 g_eql8' g_neq8' one32 st32 cm32 b_and32 b_and32r b_and32l b_or32 b_or32r b_or32l b_xor32 b_xor32r b_xor32l b_andNot32 b_andNot32r b_andNot32l b_add32 b_add32r b_add32l b_sub32 b_sub32r b_sub32l b_mul32 b_mul32r b_mul32l b_eql32 b_eql32r b_eql32l b_neq32 b_neq32r b_neq32l b_lss32 b_lss32r b_lss32l b_leq32 b_leq32r b_leq32l b_gtr32 b_gtr32r b_gtr32l b_geq32 b_geq32r b_geq32l b_quo32r b_rem32r b_shl32r b_shr32r b_shl32l b_shr32l u_xor32 g_eql32 g_neq32 g_eql32' g_neq32' one64 st64 cm64 b_and64 b_and64r b_and64l b_or64 b_or64r b_or64l b_xor64 b_xor64r b_xor64l b_andNot64 b_andNot64r b_andNot64l b_add64 b_add64r b_add64l b_sub64 b_sub64r b_sub64l b_mul64 b_mul64r b_mul64l b_eql64 b_eql64r b_eql64l b_neq64 b_neq64r b_neq64l b_lss64 b_lss64r b_lss64l b_leq64 b_leq64r b_leq64l b_gtr64 b_gtr64r b_gtr64l b_geq64 b_geq64r b_geq64l b_quo64r b_rem64r b_shl64r b_shr64r b_shl64l b_shr64l u_xor64 g_eql64 g_neq64 g_eql64' g_neq64' c_u8_u8 c_u8_u32 c_u8_u64 c_i_u8 c_u32_u8 c_u32_u32 c_u32_u64 c_i_u32 c_u64_u8 c_u64_u32 c_u64_u64 c_i_u64 c_u8_i c_u32_i
attribute [local go_sem ↓] ce8 ce32 ce64
attribute [local go_sem ↓] sliced_slp
theorem sameInts_any (p q : Option Addr) (cp cq : Nat) (l : List Int) (w : World) (hp : Rd VI w p cp l) (hq : Rd VI w q cq l) (hl : l.length ≤ 1099511627776) :
    Calls Try.prog 31 #[.slice p l.length cp, .slice q l.length cq] w fun e w' => e = .returned (.bool true) ∧ Mod [] w w' := by
  have HP := Lib.hid hp
  have HQ := Lib.hid hq
  clear hp hq
  go_enter Try.func31, Try.ntmps31
  go_wp2_with fail
  go_loopw [5] (fun iv wr => ∃ k : Nat, k ≤ l.length ∧ iv = .int .i64 k ∧ Mod [] w wr) (fun iv _ => l.length - (intOf iv).toNat)
  case atStart => exact ⟨0, by omega, rfl, Mod.refl _ _⟩
  case round =>
    obtain ⟨k, hk, rfl, hm⟩ := hrel
    by_cases hlt : k < l.length
    · obtain ⟨x, hxk⟩ : ∃ x, l[k]? = some x := ⟨l[k], List.getElem?_eq_getElem hlt⟩
      obtain ⟨b1, o1, rfl, hr1⟩ := (HP.out.mod0 hm).cell k x hxk
      obtain ⟨b2, o2, rfl, hr2⟩ := (HQ.out.mod0 hm).cell k x hxk
      change _ = some (Value.int .i64 x) at hr1
      change _ = some (Value.int .i64 x) at hr2
      clear hxk
      go_wp2_with fail
      go_quiet (fail)
      go_wp2_with fail
      go_roundw
      case rel => exact ⟨k + 1, by omega, by go_num, hm.drewN _⟩
      case measure => simp [intOf]; omega
    · have hd : decide ((k : Int) < (l.length : Int)) = false := by simp; omega
      go_wp2_with fail
      go_ret
      exact ⟨rfl, hm⟩
theorem take_len {l : List Int} {n : Nat} (h : n ≤ l.length) : (l.take n).length = n := List.length_take_of_le h
set_option maxRecDepth 100000 in
set_option maxHeartbeats 1000000 in
theorem lo_main (p q : Option Addr) (cp cq : Nat) (l ah : List Int) (w : World) (hp : Rd VI w p cp l) (hq : Rd VI w q cq ah) (hl : l.length ≤ 1048576) (hah : ah.length ≤ 1048576) (hlb : ∀ x ∈ l, x ≤ 9223372036854775807) (hab : ∀ x ∈ ah, x ≤ 9223372036854775807) :
    Calls Try.prog 8 #[.slice p l.length cp, .slice q ah.length cq] w fun e w' => e = .returned (.bool true) ∧ Mod [] w w' := by
  have hmf : ∀ (fn : Fn) (first cap : Array Value) (w : World), (Instr.makeFunc fn first cap).run Try.prog w = .ok (.func fn first cap) w := fun _ _ _ _ => rfl
  have HN := Lib.hid (newW_any w.heap.size w (Nat.le_refl _))
  have HK := Lib.hid known_any
  have HP := Lib.hid hp
  have HQ := Lib.hid hq
  have HLB := Lib.hid hlb
  have HAB := Lib.hid hab
  clear hp hq hlb hab
  go_enter Try.func8, Try.ntmps8
  go_wp2_with fail
  refine HN.out.mono ?_
  rintro e w1 ⟨g, rfl, hg, hi1, m1⟩
  have HI1 := Lib.hid hi1
  have M1 := Lib.hid m1
  clear hi1 m1 hg HN
  go_wp2_with fail
  refine (HK.out _).mono ?_
  rintro e w2 ⟨rfl, m2⟩
  have HI2 := Lib.hid (HI1.out.mod0 m2)
  have M2 := Lib.hid (M1.out.trans0 m2)
  clear m2 HI1 M1
  go_wp2_with fail
  go_loopw [6, 7] (fun fv iv wr => ∃ (k : Nat) (v : Value), k ≤ ah.length ∧ iv = .int .i64 k ∧ fv = .bool (neg (ah.take k)) ∧ IsW wr w.heap.size g v (numsW ⟨[], 0⟩ (ah.take k)) ∧ Mod [] w wr) (fun _ iv _ => ah.length - (intOf iv).toNat)
  case atStart => exact ⟨0, _, by omega, rfl, rfl, HI2.out, M2.out⟩
  case round =>
    obtain ⟨k, v, hk, rfl, rfl, hi, hm⟩ := hrel
    have HI := Lib.hid hi
    have HM := Lib.hid hm
    clear hi hm HI2 M2
    by_cases hkl : k < ah.length
    · obtain ⟨x, hx⟩ : ∃ x, ah[k]? = some x := ⟨ah[k], List.getElem?_eq_getElem hkl⟩
      obtain ⟨b, o, rfl, hc⟩ := (HQ.out.mod0 HM.out).cell k x hx
      change _ = some (Value.int .i64 x) at hc
      have HNB := Lib.hid (number_any w.heap.size g v _ wr HI.out (numsW_ok (by simp) _) x (HAB.out x (List.mem_of_getElem? hx)))
      have HS := Lib.hid (numsW_succ ⟨[], 0⟩ ah k x hx)
      have HNS := Lib.hid (neg_succ ah k x hx)
      have HX := Lib.hid hx
      obtain ⟨f, hf⟩ : ∃ f, f = neg (ah.take k) := ⟨_, rfl⟩
      have HF := Lib.hid hf
      rw [← hf]
      clear hf hx
      go_wp2_with fail
      refine HNB.out.mono ?_
      rintro e w3 ⟨v3, rfl, hi3, m3, _⟩
      have M3 := Lib.hid (HM.out.trans m3 (fun y hy => .inr (HI.out.foot_base y hy)))
      have HI3 := Lib.hid hi3
      obtain ⟨_, _, hbo, hc3⟩ := (HQ.out.mod0 M3.out).cell k x HX.out
      cases hbo
      change _ = some (Value.int .i64 x) at hc3
      clear hi3 m3 hc HNB
      cases f with
      | true =>
        go_wp2_with fail
        go_roundw
        case rel => exact ⟨k + 1, v3, by omega, by go_num, by rw [HNS.out, ← HF.out]; rfl, by rw [HS.out]; exact HI3.out, M3.out⟩
        case measure => simp [intOf]; omega
      | false =>
        by_cases hxn : x < 0
        · have hxd : decide (x < 0) = true := by simpa using hxn
          clear hxn
          go_wp2_with fail
          go_roundw
          case rel => exact ⟨k + 1, v3, by omega, by go_num, by rw [HNS.out, ← HF.out, hxd]; rfl, by rw [HS.out]; exact HI3.out, M3.out⟩
          case measure => simp [intOf]; omega
        · have hxd : decide (x < 0) = false := by simpa using hxn
          clear hxn
          go_wp2_with fail
          go_roundw
          case rel => exact ⟨k + 1, v3, by omega, by go_num, by rw [HNS.out, ← HF.out, hxd]; rfl, by rw [HS.out]; exact HI3.out, M3.out⟩
          case measure => simp [intOf]; omega
    · have hd : decide ((k : Int) < (ah.length : Int)) = false := by simp; omega
      have hkk : ah.take k = ah := List.take_of_length_le (by omega)
      rw [hkk] at HI
      rw [hkk]
      obtain ⟨f0, hf0⟩ : ∃ f0, f0 = neg ah := ⟨_, rfl⟩
      have HF0 := Lib.hid hf0
      rw [← hf0]
      obtain ⟨WA, hWA⟩ : ∃ WA, WA = numsW ⟨[], 0⟩ ah := ⟨_, rfl⟩
      have HWA := Lib.hid hWA
      rw [← hWA] at HI
      have hlenA : WA.b.length ≤ 4194304 := by rw [hWA]; exact numsW_ok (by simp) _
      obtain ⟨bs, hbs⟩ : ∃ b, b = wr.heap.size := ⟨_, rfl⟩
      obtain ⟨w4, hw4⟩ : ∃ W, W = wr.alloc (.cells #[.slice none 0 0] 62) := ⟨_, rfl⟩
      have hb4 : w4.heap[bs]? = some (.cells #[.slice none 0 0] 62 (0, 0)) := by rw [hw4]; exact hp_new _ _ _ hbs
      have hM4 : Mod [] wr w4 := by rw [hw4]; exact (Mod.refl [] wr).alloc _
      have hB4 : w.heap.size ≤ bs := by rw [hbs]; exact HM.out.size
      have hfl : ∀ x ∈ footB g v, x < bs := by rw [hbs]; exact HI.out.foot_lt
      have hL := layInt_any w.heap.size g v WA w4 (HI.out.mod0 hM4) hlenA p cp l (by omega) 29 #[.pointer (some ⟨bs, 0, none⟩)] callLays1
        (fun xs v1 W1 w1 => IsW w1 w.heap.size g v1 W1 ∧ W1 = numsW (WA.number l.length) xs ∧ (∃ vs, w1.heap[bs]? = some (.cells #[vs] 62 (0, 0)) ∧ OwnI w1 w.heap.size vs xs) ∧ Mod [] w w1 ∧ (∀ m, m < xs.length → (numsW (WA.number l.length) (xs.take m)).e = 0))
        (fun v1 w1 hi hm _ => ⟨hi, rfl, ⟨_, hm.get hb4 (fun hx => by have := hfl _ hx; omega), OwnN.nil _ _ _ _ _⟩, (HM.out.trans0 hM4).trans hm (fun y hy => .inr (HI.out.foot_base y hy)), by simp⟩)
        (fun xs v1 W1 w1 hI => ⟨hI.1, HP.out.mod0 hI.2.2.2.1⟩)
        (fun n x v1 W1 w1 hx hI he => by
          obtain ⟨hi, hW1, ⟨vs, hb, ho⟩, hm, hz⟩ := hI
          have hnl : n < l.length := (List.getElem?_eq_some_iff.1 hx).1
          have htn : (l.take n).length = n := take_len (by omega)
          refine (lays1_any w.heap.size g bs v1 W1 w1 hi (by rw [hW1]; exact numsW_ok ((Wr.Ok.mk hlenA).number _).len _) x (HLB.out x (List.mem_of_getElem? hx)) vs (l.take n) hb ho (by omega) hB4).mono ?_
          rintro e w2 ⟨rfl, v', vs', hi', hb', ho', S, hmS, hS⟩
          refine ⟨rfl, v', W1.number x, hi', by rw [hW1, numsW_succ _ l n x hx], ⟨vs', hb', ?_⟩, hm.trans hmS (fun y hy => .inr (hS y hy)), fun m hm2 => ?_⟩
          · rw [List.take_add_one, hx]; exact ho'
          · rw [take_len (by omega)] at hm2
            rw [List.take_take, Nat.min_eq_left (by omega)]
            rcases Nat.lt_or_ge m n with h3 | h3
            · have := hz m (by rw [htn]; exact h3)
              rwa [List.take_take, Nat.min_eq_left (by omega)] at this
            · obtain rfl : m = n := by omega
              rw [← hW1]; exact he)
      have HL := Lib.hid hL
      rw [hw4] at HL
      have HBS := Lib.hid hbs
      clear hL hb4 hM4 hfl hw4 hkk hWA hf0 hbs
      go_wp2_with fail
      rw [← HBS.out]
      refine HL.out.mono ?_
      rintro e w5 ⟨rfl, n, v5, W5, hn, ⟨hi5, hW5, ⟨vs, hb5, ho5⟩, hm5, hz⟩, hstop⟩
      rw [take_len hn] at hz
      have hz2 : ∀ m, m < n → (numsW (WA.number l.length) (l.take m)).e = 0 := by
        intro m hm
        have := hz m hm
        rwa [List.take_take, Nat.min_eq_left (by omega)] at this
      rw [hW5] at hi5 hstop
      have HI5 := Lib.hid hi5
      have HB5 := Lib.hid hb5
      have HO5 := Lib.hid ho5
      have M5 := Lib.hid hm5
      have HZ := Lib.hid hz2
      have HST := Lib.hid hstop
      clear hi5 hW5 hb5 ho5 hm5 hz hz2 hstop HL HI HM
      go_wp2_with fail
      go_loopw [6, 9, 10] (fun fv wv iv wr => ∃ (i : Nat) (vw : Value), i ≤ l.length ∧ iv = .int .i64 i ∧ fv = .bool (f0 || neg (l.take i)) ∧ wv = vw ∧ OwnI wr w5.heap.size vw (l.take i) ∧ Mod [] w5 wr ∧ (∀ m, m < i → (f0 || neg (l.take m)) = false)) (fun _ _ iv _ => l.length - (intOf iv).toNat)
      case atStart => exact ⟨0, _, by omega, rfl, by simp [neg], rfl, OwnN.nil _ _ _ _ _, Mod.refl _ _, by simp⟩
      case round =>
        obtain ⟨i, vw, hi, rfl, rfl, rfl, ho, hm, hfz⟩ := hrel
        have HO := Lib.hid ho
        have HM := Lib.hid hm
        have HFZ := Lib.hid hfz
        obtain ⟨pw, cw, hvw, _, _⟩ := OwnI.rdI ho
        rw [take_len hi] at hvw
        clear ho hm hfz
        subst hvw
        obtain ⟨ff, hff⟩ : ∃ ff, ff = (f0 || neg (l.take i)) := ⟨_, rfl⟩
        have HFF := Lib.hid hff
        rw [← hff]
        clear hff
        by_cases hgo : i < l.length ∧ ff = false
        · obtain ⟨hil, hfe⟩ := hgo
          subst hfe
          obtain ⟨x, hx⟩ : ∃ x, l[i]? = some x := ⟨l[i], List.getElem?_eq_getElem hil⟩
          have hrp := HP.out.mod0 (M5.out.trans0 HM.out)
          obtain ⟨b, o, rfl, hc⟩ := hrp.cell i x hx
          change _ = some (Value.int .i64 x) at hc
          have HNS := Lib.hid (neg_succ l i x hx)
          have HX := Lib.hid hx
          have HTA := Lib.hid (show l.take (i + 1) = l.take i ++ [x] by rw [List.take_add_one, hx]; rfl)
          have htl : (l.take i).length = i := take_len hi
          clear hx hrp
          go_wp2_with (at_builtin; with_reducible refine froz_app _ _ rfl ?_)
          unfold Froz
          refine wpList_pushN (VI 0) 8 Try.underlying62 infoInt rfl (by decide) ci_len ci_one rfl _ _ rfl w5.heap.size _ (l.take i) (HO.out.alloc _) rfl wr.heap.size 0 1 1 [x] rfl rfl (range_ci wr x _ rfl) (by unfold maxLen; rw [htl]; simp; omega) (by rw [htl]; simp; omega) (by simp; have := HM.out.size; omega) ?_
          intro v' w7 ho7 hg7
          have hm7 : Mod [] w5 w7 := (HM.out.alloc _).of_grown hg7 (fun y hy => .inr (HO.out.row y hy))
          obtain ⟨_, _, hbo, hc7⟩ := (HP.out.mod0 (M5.out.trans0 hm7)).cell i x HX.out
          cases hbo
          change _ = some (Value.int .i64 x) at hc7
          have HO7 := Lib.hid (show OwnI w7 w5.heap.size v' (l.take (i + 1)) by rw [HTA.out]; exact ho7)
          have HM7 := Lib.hid hm7
          obtain ⟨p7, c7, hv7, _, _⟩ := OwnI.rdI HO7.out
          rw [take_len (by omega)] at hv7
          clear ho7 hg7 hm7 hc htl
          subst hv7
          go_wp2_with fail
          go_roundw
          case rel => exact ⟨i + 1, _, by omega, by go_num, by rw [HNS.out, ← Bool.or_assoc, ← HFF.out]; rfl, rfl, HO7.out, HM7.out, fun m hm => by
            rcases Nat.lt_or_ge m i with h3 | h3
            · exact HFZ.out m h3
            · obtain rfl : m = i := by omega
              exact HFF.out.symm⟩
          case measure => simp [intOf]; omega
        · have hst : i = l.length ∨ ff = true := by
            by_cases h : i < l.length
            · exact .inr (by cases hf : ff with | true => rfl | false => exact absurd ⟨h, hf⟩ hgo)
            · exact .inl (by omega)
          clear hgo
          have hEF : l.length + ah.length ≤ 400000 → n = i ∧ (numsW (WA.number l.length) (l.take n)).e = (if ff then 32 else 0) ∧ (numsW (WA.number l.length) (l.take n)).b.length ≤ 4194304 := by
            intro hsm
            have hc : ∀ m, m ≤ l.length → Clean (numsW (WA.number l.length) (l.take m)) (f0 || neg (l.take m)) (ah.length + 1 + m) := by
              intro m hm
              rw [HWA.out, HF0.out]
              exact clean_all ah l hsm m hm
            have hni : n = i := by
              refine stop_same (l := l) (E := fun m => (numsW (WA.number l.length) (l.take m)).e ≠ 0) (F := fun m => (f0 || neg (l.take m)) = true) n i hn hi HST.out (fun m hm h => h (HZ.out m hm)) (hst.imp id (fun h => by rw [← HFF.out]; exact h)) (fun m hm h => by rw [HFZ.out m hm] at h; cases h) (fun m hm => ?_)
              rw [(hc m hm).e]
              cases f0 || neg (l.take m) <;> simp
            subst hni
            have h := hc n hn
            rw [← HFF.out] at h
            exact ⟨rfl, h.e, by have := h.len; omega⟩
          have HEF := Lib.hid hEF
          clear hEF
          obtain ⟨ps, cs, hvs, _, _⟩ := OwnI.rdI HO5.out
          rw [take_len hn] at hvs
          have hbx : wr.heap[bs]? = some (.cells #[.slice ps n cs] 62 (0, 0)) := by rw [← hvs]; exact HM.out.get0 HB5.out
          have HBX := Lib.hid hbx
          have HVS := Lib.hid hvs
          clear hvs hbx
          have hend : ∀ (rest : Prop), rest → rest := fun _ h => h
          rcases Nat.lt_or_ge 400000 (l.length + ah.length) with hbig | hsm
          · have hdb : decide (400000 < (l.length : Int) + (ah.length : Int)) = true := by simp; omega
            rcases Nat.lt_or_ge i l.length with hil | hil
            · have hfe : ff = true := by rcases hst with h | h; · omega
                                         · exact h
              subst hfe
              go_wp2_with fail
              go_ret
              exact ⟨rfl, M5.out.trans0 HM.out⟩
            · have hdl : decide ((i : Int) < (l.length : Int)) = false := by simp; omega
              go_wp2_with fail
              go_ret
              exact ⟨rfl, M5.out.trans0 HM.out⟩
          · have hdb : decide (400000 < (l.length : Int) + (ah.length : Int)) = false := by simp; omega
            obtain ⟨hni, hWe, hWl⟩ := HEF.out hsm
            have HI8 := Lib.hid (HI5.out.mod0 HM.out)
            obtain ⟨WF, hWF⟩ : ∃ WF, WF = numsW (WA.number l.length) (l.take n) := ⟨_, rfl⟩
            rw [← hWF] at HI8 hWe hWl
            have hsame : ∀ w8, Mod [] wr w8 → Calls Try.prog 31 #[.slice ps n cs, .slice pw i cw] w8 fun e w' => e = .returned (.bool true) ∧ Mod [] w8 w' := by
              intro w8 h8
              obtain ⟨ps2, cs2, hv2, hr2, _⟩ := OwnI.rdI HO5.out
              rw [take_len hn, HVS.out] at hv2
              cases hv2
              obtain ⟨pw2, cw2, hv3, hr3, _⟩ := OwnI.rdI HO.out
              rw [take_len hi] at hv3
              cases hv3
              rw [← hni] at hr3 ⊢
              have := sameInts_any ps pw cs cw (l.take n) w8 (hr2.mod0 (HM.out.trans0 h8)) (hr3.mod0 h8) (by rw [take_len hn]; omega)
              rwa [take_len hn] at this
            have HSAME := Lib.hid hsame
            clear hsame hWF
            cases ff with
            | true =>
              have hW32 : WF.e = 32 := hWe
              have hD := done_no w.heap.size g v5 WF wr HI8.out (by omega)
              rw [hW32] at hD
              have HD := Lib.hid hD
              clear hD hWe hW32 hWl hni
              rcases Nat.lt_or_ge i l.length with hil | hil
              all_goals
                go_wp2_with fail
                refine HD.out.mono ?_
                rintro e w8 ⟨rfl, m8⟩
                have hc8 : w8.cell? ⟨bs, 0, none⟩ = some (.slice ps n cs) := by rw [cell_blk (m8.get0 HBX.out)]; rfl
                have HS8 := Lib.hid (HSAME.out w8 m8)
                have M8 := Lib.hid ((M5.out.trans0 HM.out).trans0 m8)
                clear m8 HD
                go_wp2_with fail
                refine HS8.out.mono ?_
                rintro e w9 ⟨rfl, m9⟩
                clear hc8
                go_wp2_with fail
                go_ret
                exact ⟨by simp, M8.out.trans0 m9⟩
            | false =>
              have hW0 : WF.e = 0 := hWe
              have HD := Lib.hid (done_yes w.heap.size g v5 WF wr HI8.out hWl hW0)
              have hil : l.length ≤ i := by
                rcases hst with h | h
                · omega
                · cases h
              clear hWe hW0 hWl hni
              go_wp2_with fail
              refine HD.out.mono ?_
              rintro e w8 ⟨r, rfl, _, m8⟩
              have hc8 : w8.cell? ⟨bs, 0, none⟩ = some (.slice ps n cs) := by rw [cell_blk (m8.get0 HBX.out)]; rfl
              have HS8 := Lib.hid (HSAME.out w8 m8)
              have M8 := Lib.hid ((M5.out.trans0 HM.out).trans0 m8)
              clear m8 HD
              go_wp2_with fail
              refine HS8.out.mono ?_
              rintro e w9 ⟨rfl, m9⟩
              clear hc8
              go_wp2_with fail
              go_ret
              exact ⟨by simp, M8.out.trans0 m9⟩
end Go.Proofs.Ytmjdfglidfdkaaa
