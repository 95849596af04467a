/- clash of inbox's laws: it finds two unlike texts of one digest where there are any. Conditions: the tables lie in their variables; entries that may be. -/
import Derived.Test.YtmdgefiojapogaaDoorInLinks
import Derived.Test.YtmdgefiojapogaaDoorInForkM
namespace Go.Proofs.YtmdgefiojapogaaDoor
open Go.RowKit
attribute [local go_sem high] one8 st8 cm8 b_and8 b_and8r b_and8l b_or8 b_or8r b_or8l b_xor8 b_xor8r b_xor8l b_andNot8 b_andNot8r b_andNot8l b_add8 b_add8r b_add8l b_sub8 b_sub8r b_sub8l b_mul8 b_mul8r b_mul8l b_eql8 b_eql8r b_eql8l b_neq8 b_neq8r b_neq8l b_lss8 b_lss8r b_lss8l b_leq8 b_leq8r b_leq8l b_gtr8 b_gtr8r b_gtr8l b_geq8 b_geq8r b_geq8l b_quo8r b_rem8r b_shl8r b_shr8r b_shl8l b_shr8l u_xor8 g_eql8 g_neq8 g_eql8' g_neq8' one32 st32 cm32 b_and32 b_and32r b_and32l b_or32 b_or32r b_or32l b_xor32 b_xor32r b_xor32l b_andNot32 b_andNot32r b_andNot32l b_add32 b_add32r b_add32l b_sub32 b_sub32r b_sub32l b_mul32 b_mul32r b_mul32l b_eql32 b_eql32r b_eql32l b_neq32 b_neq32r b_neq32l b_lss32 b_lss32r b_lss32l b_leq32 b_leq32r b_leq32l b_gtr32 b_gtr32r b_gtr32l b_geq32 b_geq32r b_geq32l b_quo32r b_rem32r b_shl32r b_shr32r b_shl32l b_shr32l u_xor32 g_eql32 g_neq32 g_eql32' g_neq32' one64 st64 cm64 b_and64 b_and64r b_and64l b_or64 b_or64r b_or64l b_xor64 b_xor64r b_xor64l b_andNot64 b_andNot64r b_andNot64l b_add64 b_add64r b_add64l b_sub64 b_sub64r b_sub64l b_mul64 b_mul64r b_mul64l b_eql64 b_eql64r b_eql64l b_neq64 b_neq64r b_neq64l b_lss64 b_lss64r b_lss64l b_leq64 b_leq64r b_leq64l b_gtr64 b_gtr64r b_gtr64l b_geq64 b_geq64r b_geq64l b_quo64r b_rem64r b_shl64r b_shr64r b_shl64l b_shr64l u_xor64 g_eql64 g_neq64 g_eql64' g_neq64' c_u8_u8 c_u8_u32 c_u8_u64 c_i_u8 c_u32_u8 c_u32_u32 c_u32_u64 c_i_u32 c_u64_u8 c_u64_u32 c_u64_u64 c_i_u64 c_u8_i c_u32_i
attribute [local go_sem ↓] ce8 ce32 ce64
attribute [local go_sem ↓] sliced_slp loadO26 storeO26 loadOEn storeOEn buildZDg buildZEn
set_option maxRecDepth 100000 in
set_option maxHeartbeats 4000000 in
theorem clash_true {hf : Bs → Bs} (src : Bs) (hs : src.length = 32) (p q : Option Addr) (c d n i0 : Nat) (es fs : List Ev) (w : World) (hn : n = es.length) (hm : n = fs.length) (h : Ents w p c es) (h2 : Ents w q d fs) (H : Hs hf w) (R : Rf w)
    (fe : ∀ x ∈ es, x.1.fine = true) (ff : ∀ x ∈ fs, x.1.fine = true) (hi0 : i0 < n) (hcl : Clash hf src es fs i0) :
    Calls Tryd.prog 34 #[dv src, .slice p n c, .slice q n d] w fun e w' => e = .returned (.bool true) ∧ Mod [] w w' := by
  have HE := Lib.hid h
  have HF := Lib.hid h2
  have HH := Lib.hid H
  have HRF := Lib.hid R
  have HN := Lib.hid hn
  have HN2 := Lib.hid hm
  have HS := Lib.hid hs
  have HFE := Lib.hid fe
  have HFF := Lib.hid ff
  have HCL := Lib.hid hcl
  have hn20 : n ≤ 1048577 := by rw [hn]; exact h.small
  have hL0 := loadDv (w := w.alloc (.cells (src.map V8).toArray 24)) src hs (hp_new w _ _ rfl)
  have M0 := Lib.hid ((Mod.refl [] w).alloc (.cells (src.map V8).toArray 24))
  have HB0 := Lib.hid (hp_new w (.cells (src.map V8).toArray 24) _ rfl)
  have HLA := Lib.hid (fun (V : World) (m : Mod [] w V) => links_any (hf := hf) src hs p c n es V hn (h.mod0 m) (H.mod0 m) (R.mod0 m))
  have HLB := Lib.hid (fun (V : World) (m : Mod [] w V) => links_any (hf := hf) src hs q d n fs V hm (h2.mod0 m) (H.mod0 m) (R.mod0 m))
  have es0 : dv src = .agg (src.map V8).toArray := rfl
  rw [es0] at hL0 HLA HLB ⊢
  obtain ⟨ss, hss⟩ : ∃ ss, ss = (src.map V8).toArray := ⟨_, rfl⟩
  rw [← hss] at hL0 M0 HB0 HLA HLB ⊢
  have HSS := Lib.hid hss
  clear h h2 H R hn hm hs fe ff hcl hss es0
  go_enter Tryd.func34, Tryd.ntmps34
  go_wp2_with fail
  refine (HLA.out _ M0.out).mono ?_
  rintro e w1 ⟨v1, ks, rfl, ho1, hk1, m1⟩
  have HO1 := Lib.hid (ho1.mono (B' := w.heap.size) M0.out.size)
  have HK1 := Lib.hid hk1
  have M1 := Lib.hid (M0.out.trans0 m1)
  have hL1 := loadDv (w := w1) src HS.out (by rw [← HSS.out]; exact m1.get0 HB0.out)
  unfold dv at hL1
  rw [← HSS.out] at hL1
  clear ho1 hk1 m1 hL0
  go_wp2_with fail
  refine (HLB.out _ M1.out).mono ?_
  rintro e w2 ⟨v2, ls, rfl, ho2, hk2, m2⟩
  have HO2 := Lib.hid (ho2.mono (B' := w.heap.size) M1.out.size)
  have HO1' := Lib.hid (HO1.out.mod0 m2)
  have HK2 := Lib.hid hk2
  have M2 := Lib.hid (M1.out.trans0 m2)
  clear ho2 hk2 m2 hL1
  obtain ⟨p1, c1, rfl, hr1, _⟩ := HO1'.out.rd
  obtain ⟨p2, c2, rfl, hr2, _⟩ := HO2.out.rd
  have hk1 := HK1.out.len
  have hk2 := HK2.out.len
  have HR1 := Lib.hid hr1
  have HR2 := Lib.hid hr2
  rw [← HN.out] at hk1
  rw [← HN2.out] at hk2
  rw [hk1, hk2]
  clear hr1 hr2 hk1 hk2
  go_wp2_with fail
  go_loopw [9] (fun iv wr => ∃ i : Nat, i ≤ i0 ∧ iv = .int .i64 i ∧ Mod [] w2 wr) (fun iv _ => n - (intOf iv).toNat)
  case atStart => exact ⟨0, by omega, rfl, Mod.refl _ _⟩
  case round =>
    obtain ⟨i, hi, rfl, hm⟩ := hrel
    have HM := Lib.hid hm
    clear hm
    have hlt : i < n := by omega
    obtain ⟨x, hx⟩ : ∃ x, es[i]? = some x := ⟨es[i]'(by rw [← HN.out]; exact hlt), List.getElem?_eq_getElem _⟩
    obtain ⟨y, hy⟩ : ∃ y, fs[i]? = some y := ⟨fs[i]'(by rw [← HN2.out]; exact hlt), List.getElem?_eq_getElem _⟩
    obtain ⟨L, hL⟩ : ∃ L, L = linkI hf src (es.take i) := ⟨_, rfl⟩
    obtain ⟨K2, hK2⟩ : ∃ K2, K2 = linkI hf src (fs.take i) := ⟨_, rfl⟩
    have hkL := HK1.out.at_ i (by rw [← HN.out]; omega)
    have hkK := HK2.out.at_ i (by rw [← HN2.out]; omega)
    rw [← hL] at hkL
    rw [← hK2] at hkK
    have hL32 := HK1.out.k32 L (List.mem_of_getElem? hkL)
    have hK32 := HK2.out.k32 K2 (List.mem_of_getElem? hkK)
    obtain ⟨bl, ol, hpl, _⟩ := HR1.out.elem dgc_len i L hkL
    obtain ⟨bk, ok, hpk, _⟩ := HR2.out.elem dgc_len i K2 hkK
    subst hpl hpk
    have l1 := loadD_at (w := wr.drew) (HR1.out.mod0 HM.out.drew) (i := i) L hkL hL32
    obtain ⟨b, o, hp, hrg⟩ := HE.out.rd.elem evc_len i x hx
    obtain ⟨b2, o2, hq, hrg2⟩ := HF.out.rd.elem evc_len i y hy
    have MW := Lib.hid (M2.out.trans0 HM.out)
    have l2 := (enAt x.2 (range_mod MW.out.drew hrg (by simp))).ln
    have HL2 := Lib.hid (fun (V : World) (m : Mod [] wr V) => loadD_at (w := V) (HR2.out.mod0 (HM.out.trans0 m)) (i := i) K2 hkK hK32)
    have HL3 := Lib.hid (fun (V : World) (m : Mod [] wr V) => (enAt y.2 (range_mod (MW.out.trans0 m) hrg2 (by simp))).ln)
    have hbx := HE.out.body x (List.mem_of_getElem? hx)
    have hby := HF.out.body y (List.mem_of_getElem? hy)
    have fx := HFE.out x (List.mem_of_getElem? hx)
    have fy := HFF.out y (List.mem_of_getElem? hy)
    have HTX := Lib.hid (text_any L hL32 x.1 wr.drew x.2 (hbx.mod0 MW.out.drew) fx)
    have HTY := Lib.hid (fun (V : World) (m : Mod [] wr V) => text_any K2 hK32 y.1 V y.2 (hby.mod0 (MW.out.trans0 m)) fy)
    have hbl1 := bytes_len x.2 fx
    have hbl2 := bytes_len y.2 fy
    have hS : ∃ S, S = L ++ x.1.bytes := ⟨_, rfl⟩
    obtain ⟨S, hS⟩ := hS
    obtain ⟨T, hT⟩ : ∃ T, T = K2 ++ y.1.bytes := ⟨_, rfl⟩
    have hsl : S.length ≤ 5000 := by rw [hS, List.length_append]; omega
    have htl : T.length ≤ 5000 := by rw [hT, List.length_append]; omega
    rw [← hS] at HTX
    rw [← hT] at HTY
    have HC := Lib.hid (show i = i0 → S ≠ T ∧ hf S = hf T from fun he => by
      subst he
      obtain ⟨x', y', h1, h2, h3, h4⟩ := HCL.out
      rw [hx] at h1
      rw [hy] at h2
      injection h1 with h1
      injection h2 with h2
      subst h1 h2
      rw [← hL, ← hK2, ← hS, ← hT] at h3 h4
      exact ⟨h3, h4⟩)
    obtain ⟨xs, hxs⟩ : ∃ xs, xs = x.1.cells.toArray := ⟨_, rfl⟩
    obtain ⟨ys, hys⟩ : ∃ ys, ys = y.1.cells.toArray := ⟨_, rfl⟩
    rw [← hxs] at l2 HTX
    rw [← hys] at HL3 HTY
    have q0 : (0 : Int) ≤ (i : Int) := by omega
    have q1 : (i : Int) < (n : Int) := by omega
    have q2 : (i : Int) < (n : Int) + 1 := by omega
    have HSL := Lib.hid hsl
    have HTL := Lib.hid htl
    subst hp hq
    clear hL hK2 hkL hkK hL32 hK32 hx hy hrg hrg2 hbx hby fx fy hbl1 hbl2 hS hT hxs hys hsl htl
    go_wp2_with fail
    go_still_tail 8, (by kernel_rfl)
    change wpList _ _ _ _ _ wr.drew
    go_wp2_with fail
    refine HTX.out.mono ?_
    rintro e w3 ⟨v3, rfl, ho3, m3⟩
    obtain ⟨p3, c3, rfl, hr3, _⟩ := ho3.rd
    have M3 := Lib.hid ((Mod.refl [] wr).drew.trans0 m3)
    have HR3 := Lib.hid hr3
    have l3 := HL2.out w3.drew M3.out.drew
    have l4 := HL3.out w3.drew M3.out.drew
    clear ho3 hr3 m3 l1 l2
    go_wp2_with fail
    go_still_tail 8, (by kernel_rfl)
    change wpList _ _ _ _ _ w3.drew
    go_wp2_with fail
    refine (HTY.out _ M3.out.drew).mono ?_
    rintro e w4 ⟨v4, rfl, ho4, m4⟩
    obtain ⟨p4, c4, rfl, hr4, _⟩ := ho4.rd
    have M34 := Lib.hid ((Mod.refl [] w3).drew.trans0 m4)
    have M4 := Lib.hid (M3.out.trans0 M34.out)
    have HR4 := Lib.hid hr4
    have HR3' := Lib.hid (HR3.out.mod0 M34.out)
    obtain ⟨s, hs⟩ : ∃ s, s = S.length := ⟨_, rfl⟩
    obtain ⟨t, ht⟩ : ∃ t, t = T.length := ⟨_, rfl⟩
    have ra := str_rd HR3'.out s hs
    have rb := str_rd HR4.out t ht
    have HMA := Lib.hid (M2.out.trans0 (HM.out.trans0 M4.out))
    have HS1 := Lib.hid (rsum (HH.out.mod0 HMA.out) (HRF.out.mod0 HMA.out) p3 c3 s S hs HR3'.out (by have := HSL.out; omega))
    have HS2 := Lib.hid (fun (V : World) (m : Mod [] w4 V) => rsum (HH.out.mod0 (HMA.out.trans0 m)) (HRF.out.mod0 (HMA.out.trans0 m)) p4 c4 t T ht (HR4.out.mod0 m) (by have := HTL.out; omega))
    rw [← hs, ← ht]
    obtain ⟨D1, hD1⟩ : ∃ D1, D1 = hf S := ⟨_, rfl⟩
    obtain ⟨D2, hD2⟩ : ∃ D2, D2 = hf T := ⟨_, rfl⟩
    rw [← hD1] at HS1
    rw [← hD2] at HS2
    have HD1 := Lib.hid hD1
    have HD2 := Lib.hid hD2
    have hd1 : D1.length = 32 := by rw [hD1]; exact HH.out.len _
    have hd2 : D2.length = 32 := by rw [hD2]; exact HH.out.len _
    have hEQ := fun w => eqD w D1 D2 hd1 hd2
    have hEG := eqGuardD
    have HMB := Lib.hid (HM.out.trans0 M4.out)
    clear hs ht ho4 hr4 m4 l3 l4 hD1 hD2 hd1 hd2
    by_cases hst : S = T
    · have hne : i ≠ i0 := fun he => (HC.out he).1 hst
      subst hst
      go_wp2_with fail
      go_roundw
      case rel => exact ⟨i + 1, by omega, by go_num, HMB.out⟩
      case measure => simp [intOf]; omega
    · have HST := Lib.hid hst
      have hb1 : (S == T) = false := by simpa using hst
      have hb2 : (S != T) = true := by simpa using hst
      by_cases hdd : D1 = D2
      · have hb3 : (D1 == D2) = true := by simp [hdd]
        simp only [hb3] at hEQ
        clear hdd
        go_wp2_with fail
        refine HS1.out.mono ?_
        rintro e w5 ⟨rfl, m5⟩
        have M5 := Lib.hid m5
        clear m5
        go_wp2_with fail
        refine (HS2.out _ M5.out).mono ?_
        rintro e w6 ⟨rfl, m6⟩
        have M6 := Lib.hid (M2.out.trans0 (HMB.out.trans0 (M5.out.trans0 m6)))
        clear m6
        go_wp2_with fail
        go_ret
        exact ⟨rfl, M6.out⟩
      · have hb3 : (D1 == D2) = false := by simpa using hdd
        simp only [hb3] at hEQ
        have hne : i ≠ i0 := fun he => hdd (by rw [HD1.out, HD2.out]; exact (HC.out he).2)
        clear hdd
        go_wp2_with fail
        refine HS1.out.mono ?_
        rintro e w5 ⟨rfl, m5⟩
        have M5 := Lib.hid m5
        clear m5
        go_wp2_with fail
        refine (HS2.out _ M5.out).mono ?_
        rintro e w6 ⟨rfl, m6⟩
        have M6 := Lib.hid (HMB.out.trans0 (M5.out.trans0 m6))
        clear m6
        go_wp2_with fail
        go_roundw
        case rel => exact ⟨i + 1, by omega, by go_num, M6.out⟩
        case measure => simp [intOf]; omega
end Go.Proofs.YtmdgefiojapogaaDoor
namespace Go.Proofs.YtmdgefiojapogaaDoor
open Go.RowKit
theorem chkF_take (hf : Bs → Bs) (dst k : Bs) (es : List Ev) (N : Nat) (hN : N ≤ es.length) (hfi : ∀ x ∈ es, x.1.fine = true)
    (hso : ∀ (i : Nat) (y z : Ev), es[i]? = some y → es[i + 1]? = some z → y.1.time ≤ z.1.time) :
    chkF hf dst none k ((es.take N).map Subtype.val) = if linkI hf k (es.take N) = dst then 0 else 154 := by
  have hl : (es.take N).length = N := List.length_take_of_le hN
  have g : ∀ (i : Nat) (x : Ev), (es.take N)[i]? = some x → es[i]? = some x := fun i x h => by
    rw [List.getElem?_take] at h
    split at h
    · exact h
    · cases h
  have hr := chkF_run hf dst k (es.take N) N (by omega) (fun j x _ hx => hfi x (List.mem_of_getElem? (g j x hx))) (fun j y z _ hy hz => hso j y z (g _ _ hy) (g _ _ hz)) N (Nat.le_refl _)
  rw [hr, List.drop_of_length_le (by omega), List.take_of_length_le (l := es.take N) (by omega)]
  rfl
theorem Ents.take {W : World} {p : Option Addr} {c : Nat} {es : List Ev} (h : Ents W p c es) (N : Nat) : Ents W p c (es.take N) :=
  ⟨h.rd.take N, fun x hx => h.body x (List.mem_of_mem_take hx), by have := h.small; rw [List.length_take]; omega⟩
end Go.Proofs.YtmdgefiojapogaaDoor
namespace Go.Proofs.YtmdgefiojapogaaDoor
open Go.RowKit
attribute [local go_sem high] one8 st8 cm8 b_and8 b_and8r b_and8l b_or8 b_or8r b_or8l b_xor8 b_xor8r b_xor8l b_andNot8 b_andNot8r b_andNot8l b_add8 b_add8r b_add8l b_sub8 b_sub8r b_sub8l b_mul8 b_mul8r b_mul8l b_eql8 b_eql8r b_eql8l b_neq8 b_neq8r b_neq8l b_lss8 b_lss8r b_lss8l b_leq8 b_leq8r b_leq8l b_gtr8 b_gtr8r b_gtr8l b_geq8 b_geq8r b_geq8l b_quo8r b_rem8r b_shl8r b_shr8r b_shl8l b_shr8l u_xor8 g_eql8 g_neq8 g_eql8' g_neq8' one32 st32 cm32 b_and32 b_and32r b_and32l b_or32 b_or32r b_or32l b_xor32 b_xor32r b_xor32l b_andNot32 b_andNot32r b_andNot32l b_add32 b_add32r b_add32l b_sub32 b_sub32r b_sub32l b_mul32 b_mul32r b_mul32l b_eql32 b_eql32r b_eql32l b_neq32 b_neq32r b_neq32l b_lss32 b_lss32r b_lss32l b_leq32 b_leq32r b_leq32l b_gtr32 b_gtr32r b_gtr32l b_geq32 b_geq32r b_geq32l b_quo32r b_rem32r b_shl32r b_shr32r b_shl32l b_shr32l u_xor32 g_eql32 g_neq32 g_eql32' g_neq32' one64 st64 cm64 b_and64 b_and64r b_and64l b_or64 b_or64r b_or64l b_xor64 b_xor64r b_xor64l b_andNot64 b_andNot64r b_andNot64l b_add64 b_add64r b_add64l b_sub64 b_sub64r b_sub64l b_mul64 b_mul64r b_mul64l b_eql64 b_eql64r b_eql64l b_neq64 b_neq64r b_neq64l b_lss64 b_lss64r b_lss64l b_leq64 b_leq64r b_leq64l b_gtr64 b_gtr64r b_gtr64l b_geq64 b_geq64r b_geq64l b_quo64r b_rem64r b_shl64r b_shr64r b_shl64l b_shr64l u_xor64 g_eql64 g_neq64 g_eql64' g_neq64' c_u8_u8 c_u8_u32 c_u8_u64 c_i_u8 c_u32_u8 c_u32_u32 c_u32_u64 c_i_u32 c_u64_u8 c_u64_u32 c_u64_u64 c_i_u64 c_u8_i c_u32_i
attribute [local go_sem ↓] ce8 ce32 ce64
attribute [local go_sem ↓] sliced_slp loadO26 storeO26 loadOEn storeOEn buildZDg buildZEn
set_option maxRecDepth 100000 in
set_option maxHeartbeats 8000000 in
theorem one_law {hf : Bs → Bs} (p q : Option Addr) (c d n m : Nat) (rs qs : List Rv) (first : Bs) (w : World) (hn : n = rs.length) (hm : m = qs.length) (h : Raws w p c rs) (h2 : Raws w q d qs) (hf32 : first.length = 32) (H : Hs hf w) (R : Rf w) :
    Calls Tryd.prog 8 #[.slice p n c, .slice q m d, dv first] w fun e w' => e = .returned (.bool true) ∧ Mod [] w w' := by
  have M1 := Lib.hid ((Mod.refl [] w).alloc (.cells (first.map V8).toArray 24))
  have HB1 := Lib.hid (hp_new w (.cells (first.map V8).toArray 24) _ rfl)
  have HKN := Lib.hid (known_any _ (H.mod0 M1.out) (R.mod0 M1.out))
  have HRA := Lib.hid (fun (V : World) (m : Mod [] w V) => row_any p c n rs V hn ⟨h.rd.mod0 m, fun r hr => (h.body r hr).mod0 m, h.ints, h.small, h.bl⟩)
  have HRB := Lib.hid (fun (V : World) (k : Mod [] w V) => row_any q d m qs V hm ⟨h2.rd.mod0 k, fun r hr => (h2.body r hr).mod0 k, h2.ints, h2.small, h2.bl⟩)
  have HH := Lib.hid H
  have HRF := Lib.hid R
  have H32 := Lib.hid hf32
  have es0 : dv first = .agg (first.map V8).toArray := rfl
  rw [es0]
  obtain ⟨ss, hss⟩ : ∃ ss, ss = (first.map V8).toArray := ⟨_, rfl⟩
  rw [← hss] at M1 HB1 HKN ⊢
  have HSS := Lib.hid hss
  clear hn hm h h2 hf32 H R hss es0
  go_enter Tryd.func8, Tryd.ntmps8
  go_wp2_with fail
  refine HKN.out.mono ?_
  rintro e w2 ⟨rfl, m2⟩
  have M2 := Lib.hid (M1.out.trans0 m2)
  have HBF2 := Lib.hid (m2.get0 HB1.out)
  clear m2
  go_wp2_with fail
  refine (HRA.out w2 M2.out).mono ?_
  rintro e w3 ⟨v, t, es, rfl, hro, m3⟩
  obtain ⟨pv, cv, rfl, hents⟩ := Ents.of_row hro
  have HRO := Lib.hid hro
  have M3 := Lib.hid (M2.out.trans0 m3)
  have HBF3 := Lib.hid (m3.get0 HBF2.out)
  have HEN := Lib.hid hents
  obtain ⟨l, hll⟩ : ∃ l, l = es.length := ⟨_, rfl⟩
  have HLL := Lib.hid hll
  have hl100 : l ≤ 100 := by rw [hll]; exact hro.small
  have hcv : l ≤ cv := by rw [hll]; exact hents.rd.le
  rw [← hll]
  clear hro hents m3 hll
  go_wp2_with fail
  refine (HRB.out w3 M3.out).mono ?_
  rintro e w4 ⟨v', t', fs, rfl, hro, m4⟩
  obtain ⟨pu, cu, rfl, hents⟩ := Ents.of_row hro
  have HRO2 := Lib.hid hro
  have M4 := Lib.hid (M3.out.trans0 m4)
  have HBF4 := Lib.hid (m4.get0 HBF3.out)
  have HEN2 := Lib.hid hents
  have HEN1 := Lib.hid (HEN.out.mod0 m4)
  obtain ⟨k, hkk⟩ : ∃ k, k = fs.length := ⟨_, rfl⟩
  have HKK := Lib.hid hkk
  have hk100 : k ≤ 100 := by rw [hkk]; exact hro.small
  have hcu : k ≤ cu := by rw [hkk]; exact hents.rd.le
  rw [← hkk]
  clear hro hents m4 hkk HKN HRA HRB HEN
  go_upto_if 33 with fail
  obtain ⟨N, hN⟩ : ∃ N, N = min l k := ⟨_, rfl⟩
  have hNl : N ≤ l := by omega
  have hNk : N ≤ k := by omega
  go_cut [9] from 33 to 35 (fun v wx => v = .int .i64 N ∧ wx = w4)
  case first =>
    by_cases hlk : k < l
    · obtain rfl : N = k := by omega
      rw [decide_eq_true hlk]
      clear hN hlk hNl hNk hcv hcu hl100 hk100
      go_wp2_with fail
      go_meet
      case rel => exact ⟨rfl, rfl⟩
    · obtain rfl : N = l := by omega
      rw [decide_eq_false hlk]
      clear hN hlk hNl hNk hcv hcu hl100 hk100
      go_wp2_with fail
      go_meet
      case rel => exact ⟨rfl, rfl⟩
  case rest =>
    obtain ⟨rfl, hwc⟩ := hcut
    have hwc2 := hwc.symm
    clear hwc
    subst hwc2
    have HNE := Lib.hid hN
    clear hN
    have HBA := Lib.hid (boxed_any (hf := hf) pv cv l es w4 HLL.out HEN1.out (by rw [← HLL.out]; omega) HRO.out.fine (fun y hy => (HRO.out.body y hy).2) HRO.out.sorted (HH.out.mod0 M4.out))
    go_wp2_with fail
    refine HBA.out.mono ?_
    rintro e w5 ⟨g, rfl, hbo, m5⟩
    obtain ⟨ve, vl, es', ks, hbox, hcp, hlk⟩ := hbo
    have HBOX := Lib.hid hbox
    have HCP := Lib.hid hcp
    have HLK := Lib.hid hlk
    have M5 := Lib.hid (M4.out.trans0 m5)
    have HBF5 := Lib.hid (m5.get0 HBF4.out)
    have HBB := Lib.hid (boxed_any (hf := hf) pu cu k fs w5 HKK.out (HEN2.out.mod0 m5) (by rw [← HKK.out]; omega) HRO2.out.fine (fun y hy => (HRO2.out.body y hy).2) HRO2.out.sorted (HH.out.mod0 M5.out))
    have M45 := Lib.hid m5
    clear hbox hcp hlk m5 HBA
    go_wp2_with fail
    refine HBB.out.mono ?_
    rintro e w6 ⟨g2, rfl, hbo, m6⟩
    obtain ⟨ve2, vl2, fs', ls, hbox, hcp, hlk⟩ := hbo
    have HBOX2 := Lib.hid hbox
    have HBOX1 := Lib.hid (HBOX.out.mod0 m6)
    have HCP2 := Lib.hid hcp
    have HLK2 := Lib.hid hlk
    have M6 := Lib.hid (M5.out.trans0 m6)
    have HBF6 := Lib.hid (m6.get0 HBF5.out)
    have M46 := Lib.hid (M45.out.trans0 m6)
    have HFK := Lib.hid (fork_any _ g _ g2 ve vl ve2 vl2 es' fs' ks ls w6 HBOX1.out HBOX2.out)
    have HFK2 := Lib.hid (fun (V : World) (m : Mod [] w6 V) => fork_any _ g2 _ g ve2 vl2 ve vl fs' es' ls ks V (HBOX2.out.mod0 m) (HBOX1.out.mod0 m))
    clear hbox hcp hlk m6 HBB
    go_wp2_with fail
    refine HFK.out.mono ?_
    rintro e w7 ⟨F, rfl, hF, m7⟩
    have HFE := Lib.hid hF
    have hFO := hF.copies HCP.out HCP2.out
    have hFl : F ≤ l := by rw [HLL.out]; exact hFO.le
    have hFk : F ≤ k := by rw [HKK.out]; exact hFO.le2
    have HF := Lib.hid hFO
    have M7 := Lib.hid m7
    have HBF7 := Lib.hid (m7.get0 HBF6.out)
    clear hF hFO m7
    go_wp2_with fail
    refine (HFK2.out _ M7.out).mono ?_
    rintro e w8 ⟨F', rfl, hF', m8⟩
    have hFF : F' = F := hF'.symm.uniq HFE.out
    subst hFF
    have M8 := Lib.hid (M7.out.trans0 m8)
    have HBF8 := Lib.hid (m8.get0 HBF7.out)
    have HM8 := Lib.hid (M6.out.trans0 M8.out)
    have b1 : ((F' : Int) != (F' : Int)) = false := by simp
    have b2 : decide ((F' : Int) < 0) = false := by simp
    clear hF' m8 HFK HFK2
    have hFN : F' ≤ N := by have := HNE.out; omega
    have b3 : decide (N < F') = false := by simp; omega
    have HLA := Lib.hid (fun (V : World) (m : Mod [] w8 V) (j : Nat) (hj : j ≤ l) => (show Calls Tryd.prog 20 #[.pointer (some ⟨g, 0, none⟩), .int .i64 j] V fun e w' => e = .returned (.tuple #[dv (linkI hf (zeros 32) (es.take j)), .int .i64 0]) ∧ Mod [] V w' from by
      have h := link_any _ g ve vl es' ks V ((HBOX1.out.mod0 M8.out).mod0 m) j
      rw [HCP.out.len, ← HLL.out, show lkE l j = 0 by unfold lkE; rw [if_pos (by omega)], HLK.out j (by rw [← HLL.out]; exact hj)] at h
      exact h))
    have HLB := Lib.hid (fun (V : World) (m : Mod [] w8 V) (j : Nat) (hj : j ≤ k) => (show Calls Tryd.prog 20 #[.pointer (some ⟨g2, 0, none⟩), .int .i64 j] V fun e w' => e = .returned (.tuple #[dv (linkI hf (zeros 32) (fs.take j)), .int .i64 0]) ∧ Mod [] V w' from by
      have h := link_any _ g2 ve2 vl2 fs' ls V ((HBOX2.out.mod0 M8.out).mod0 m) j
      rw [HCP2.out.len, ← HKK.out, show lkE k j = 0 by unfold lkE; rw [if_pos (by omega)], HLK2.out j (by rw [← HKK.out]; exact hj)] at h
      exact h))
    have HENA := Lib.hid (HEN1.out.mod0 (M46.out.trans0 M8.out))
    have HENB := Lib.hid (HEN2.out.mod0 (M46.out.trans0 M8.out))
    have HFO := Lib.hid HF.out
    have HFN := Lib.hid hFN
    clear hFN HLK HLK2 hcv hcu
    go_wp2_with fail
    go_loopw [13] (fun iv wr => ∃ i : Nat, i ≤ N + 1 ∧ iv = .int .i64 i ∧ Mod [] w8 wr) (fun iv _ => N + 1 - (intOf iv).toNat)
    case atStart => exact ⟨0, by omega, rfl, Mod.refl _ _⟩
    case round =>
      obtain ⟨i, hi, rfl, hm⟩ := hrel
      have HM := Lib.hid hm
      clear hm
      by_cases hlt : i ≤ N
      · obtain ⟨A, hA⟩ : ∃ A, A = linkI hf (zeros 32) (es.take i) := ⟨_, rfl⟩
        obtain ⟨B, hB⟩ : ∃ B, B = linkI hf (zeros 32) (fs.take i) := ⟨_, rfl⟩
        have HA := Lib.hid (HLA.out wr HM.out i (by omega))
        have HB := Lib.hid (fun (V : World) (m : Mod [] wr V) => HLB.out V (HM.out.trans0 m) i (by omega))
        rw [← hA] at HA
        rw [← hB] at HB
        have HA32 := Lib.hid (show A.length = 32 from by rw [hA]; exact linkI_len HH.out.len _ _ (zeros_length 32))
        have HB32 := Lib.hid (show B.length = 32 from by rw [hB]; exact linkI_len HH.out.len _ _ (zeros_length 32))
        have HAQ := Lib.hid hA
        have HBQ := Lib.hid hB
        clear hA hB
        go_wp2_with fail
        refine HA.out.mono ?_
        rintro e w9 ⟨rfl, m9⟩
        have hS9 := storeNewD w9 A HA32.out
        have M9 := Lib.hid (m9.alloc (.cells (A.map V8).toArray 24))
        have HB9 := Lib.hid (hp_new w9 (.cells (A.map V8).toArray 24) _ rfl)
        clear m9 HA
        go_wp2_with fail
        refine (HB.out _ M9.out).mono ?_
        rintro e w10 ⟨rfl, m10⟩
        have hS10 := storeNewD w10 B HB32.out
        have M10 := Lib.hid (M9.out.trans0 (m10.alloc (.cells (B.map V8).toArray 24)))
        have HB10 := Lib.hid (hp_new w10 (.cells (B.map V8).toArray 24) _ rfl)
        have HB9' := Lib.hid ((m10.alloc (.cells (B.map V8).toArray 24)).get0 HB9.out)
        clear m10 hS9 HB
        go_wp2_with fail
        clear hS10
        obtain ⟨U, hU⟩ : ∃ U, U = w10.alloc (.cells (B.map V8).toArray 24) := ⟨_, rfl⟩
        obtain ⟨b9, hb9⟩ : ∃ b9, b9 = w9.heap.size := ⟨_, rfl⟩
        obtain ⟨b10, hb10⟩ : ∃ b10, b10 = w10.heap.size := ⟨_, rfl⟩
        rw [← hU] at M10 HB10 HB9' ⊢
        rw [← hb10] at HB10 ⊢
        rw [← hb9] at HB9' ⊢
        clear hU hb9 hb10 HB9 M9
        go_cut [116] from 80 to 116 (fun v wx => v = .bool false ∧ Mod [] U wx)
        case first =>
          have hNQ := fun w => neqDg w A B HA32.out HB32.out
          have hEQ := fun w => eqD w A B HA32.out HB32.out
          have hEG := eqGuardD
          unfold dv at hEQ hEG
          unfold dv
          by_cases hiF : i ≤ F'
          · have hAB : (A == B) = true := by
              rw [beq_iff_eq, HAQ.out, HBQ.out]
              exact linkI_fork hf _ HFO.out i hiF
            have l9 := fun n => loadDv (w := U.drewN n) A HA32.out (((Mod.refl [] U).drewN n).get0 HB9'.out)
            have l10 := fun n => loadDv (w := U.drewN n) B HB32.out (((Mod.refl [] U).drewN n).get0 HB10.out)
            unfold dv at l9 l10
            simp only [hAB] at hNQ hEQ
            have d1 : decide (i ≤ F') = true := by simpa using hiF
            have d2 : decide (F' < i) = false := by simpa using hiF
            clear hAB
            go_quiet (fail)
            have MQ := Lib.hid ((Mod.refl [] U).drewN nq)
            clear l9 l10
            go_wp2_with fail
            go_meet
            case rel => exact ⟨rfl, MQ.out⟩
          · have d1 : decide (i ≤ F') = false := by simpa using hiF
            have d2 : decide (F' < i) = true := by simpa using hiF
            by_cases hab : A = B
            · have hAB : (A == B) = true := by simp [hab]
              simp only [hAB] at hNQ hEQ
              have HIF := Lib.hid (show F' < i by omega)
              have hei : i ≤ es.length := by rw [← HLL.out]; omega
              have hfi : i ≤ fs.length := by rw [← HKK.out]; omega
              have hun : ∃ (j : Nat) (x y : Ev), j < i ∧ es[j]? = some x ∧ fs[j]? = some y ∧ sameE x.1 y.1 = false := by
                obtain ⟨x, hx⟩ : ∃ x, es[F']? = some x := ⟨_, List.getElem?_eq_getElem (by omega)⟩
                obtain ⟨y, hy⟩ : ∃ y, fs[F']? = some y := ⟨_, List.getElem?_eq_getElem (by omega)⟩
                exact ⟨F', x, y, HIF.out, hx, hy, HFO.out.un x y hx hy⟩
              obtain ⟨i0, hi0, hcl⟩ := clash_of hf HH.out.len (zeros 32) (zeros_length 32) es fs HRO.out.fine HRO2.out.fine i hei hfi (by rw [← HAQ.out, ← HBQ.out]; exact hab) hun
              have HCL := Lib.hid (fun (V : World) (m : Mod [] U V) => clash_true (hf := hf) (zeros 32) (zeros_length 32) pv pu cv cu i i0 (es.take i) (fs.take i) V (List.length_take_of_le hei).symm (List.length_take_of_le hfi).symm
                ((HENA.out.take i).mod0 ((HM.out.trans0 M10.out).trans0 m)) ((HENB.out.take i).mod0 ((HM.out.trans0 M10.out).trans0 m)) (HH.out.mod0 (HM8.out.trans0 ((HM.out.trans0 M10.out).trans0 m))) (HRF.out.mod0 (HM8.out.trans0 ((HM.out.trans0 M10.out).trans0 m)))
                (fun x hx => HRO.out.fine x (List.mem_of_mem_take hx)) (fun x hx => HRO2.out.fine x (List.mem_of_mem_take hx)) hi0 (hcl.take hi0))
              have bz : ∀ w, (BuildZ 24 #[]).run Tryd.prog w = .ok (.agg ((zeros 32).map V8).toArray) w := fun w => run_buildZ w 24 #[] _ builtDg
              have l9 := loadDv (w := U.drew) A HA32.out (hp_drew HB9'.out)
              have l10 := loadDv (w := U.drew) B HB32.out (hp_drew HB10.out)
              unfold dv at l9 l10 HCL
              obtain ⟨Z, hZ⟩ : ∃ Z : Array Value, Z = ((zeros 32).map V8).toArray := ⟨_, rfl⟩
              rw [← hZ] at bz HCL
              have q0 : (0 : Int) ≤ (i : Int) := by omega
              have q1 : (i : Int) ≤ (cv : Int) := by have := HENA.out.rd.le; omega
              have q2 : (i : Int) ≤ (cu : Int) := by have := HENB.out.rd.le; omega
              clear hab hAB hei hfi hun hi0 hcl hZ hiF
              go_still_tail 33, (by kernel_rfl)
              change wpList _ _ _ _ _ U.drew
              go_wp2_with fail
              refine (HCL.out _ (Mod.refl [] U).drew).mono ?_
              rintro e w11 ⟨rfl, m11⟩
              have MQ := Lib.hid ((Mod.refl [] U).drew.trans0 m11)
              clear m11 l9 l10
              go_wp2_with fail
              go_meet
              case rel => exact ⟨rfl, MQ.out⟩
            · have hAB : (A == B) = false := by simpa using hab
              have l9 := fun n => loadDv (w := U.drewN n) A HA32.out (((Mod.refl [] U).drewN n).get0 HB9'.out)
              have l10 := fun n => loadDv (w := U.drewN n) B HB32.out (((Mod.refl [] U).drewN n).get0 HB10.out)
              unfold dv at l9 l10
              simp only [hAB] at hNQ hEQ
              clear hAB hab
              go_quiet (fail)
              have MQ := Lib.hid ((Mod.refl [] U).drewN nq)
              clear l9 l10
              go_wp2_with fail
              go_meet
              case rel => exact ⟨rfl, MQ.out⟩
        case rest =>
          obtain ⟨rfl, mc⟩ := hcut
          have HMC := Lib.hid (HM.out.trans0 (M10.out.trans0 mc))
          clear mc
          go_wp2_with fail
          go_roundw
          case rel => exact ⟨i + 1, by omega, by go_num, HMC.out⟩
          case measure => simp [intOf]; omega
      · have d9 : decide (i ≤ N) = false := by simpa using hlt
        have hN1 : N ≤ es.length := by rw [← HLL.out]; exact hNl
        have hN2 : N ≤ fs.length := by rw [← HKK.out]; exact hNk
        have MW := Lib.hid (HM8.out.trans0 HM.out)
        have HX := Lib.hid ((HENA.out.take N).mod0 HM.out)
        have HY := Lib.hid ((HENB.out.take N).mod0 HM.out)
        have hbf := HM.out.get0 HBF8.out
        have HL5 := Lib.hid (fun (V : World) (m : Mod [] wr V) => loadDv (w := V) first H32.out (m.get0 (by rw [← HSS.out]; exact hbf)))
        have e1 : N = (es.take N).length := (List.length_take_of_le hN1).symm
        have e2 : N = (fs.take N).length := (List.length_take_of_le hN2).symm
        have HLK := Lib.hid (links_any (hf := hf) first H32.out pv cv N (es.take N) wr.drew e1 (HX.out.mod0 (Mod.refl [] wr).drew) (HH.out.mod0 MW.out.drew) (HRF.out.mod0 MW.out.drew))
        have l5 := HL5.out wr.drew (Mod.refl [] wr).drew
        unfold dv at l5 HLK
        rw [← HSS.out] at l5 HLK
        have E1 := Lib.hid e1
        have E2 := Lib.hid e2
        have q0 : (0 : Int) ≤ (N : Int) := by omega
        have q1 : (N : Int) ≤ (cv : Int) := by have := HX.out.rd.le; omega
        have q2 : (N : Int) ≤ (cu : Int) := by have := HY.out.rd.le; omega
        have hN100 : N ≤ 100 := by omega
        have HN1 := Lib.hid hN1
        have HN2 := Lib.hid hN2
        clear hbf e1 e2 hN1 hN2 hlt hi hl100 hk100 hNl hNk hFl hFk
        go_wp2_with fail
        go_still_tail 4, (by kernel_rfl)
        change wpList _ _ _ _ _ wr.drew
        go_wp2_with fail
        refine HLK.out.mono ?_
        rintro e w9 ⟨v9, ds, rfl, ho9, hk9, m9⟩
        obtain ⟨pd, cd, rfl, hrd, _⟩ := ho9.rd
        obtain ⟨T, hT⟩ : ∃ T, T = linkI hf first (es.take N) := ⟨_, rfl⟩
        have hdT : ds[N]? = some T := by
          have h := hk9.at_ N (by rw [← E1.out]; exact Nat.le_refl _)
          rw [List.take_take, Nat.min_self, ← hT] at h
          exact h
        have hdl : ds.length = N + 1 := by have h := hk9.len; rw [← E1.out] at h; exact h
        have HT32 := Lib.hid (hk9.k32 T (List.mem_of_getElem? hdT))
        obtain ⟨bd, od, hpd, _⟩ := hrd.elem dgc_len N T hdT
        subst hpd
        have HLT := Lib.hid (fun (V : World) (m : Mod [] w9 V) => loadD_at (w := V) (hrd.mod0 m) (i := N) T hdT HT32.out)
        rw [hdl]
        have M9 := Lib.hid ((Mod.refl [] wr).drew.trans0 m9)
        have HTQ := Lib.hid hT
        have l5b := HL5.out w9.drew M9.out.drew
        have l6 := HLT.out w9.drew (Mod.refl [] w9).drew
        have hc1 := chkF_take hf T first es N HN1.out HRO.out.fine HRO.out.sorted
        have hc2 := chkF_take hf T first fs N HN2.out HRO2.out.fine HRO2.out.sorted
        rw [← hT, if_pos rfl] at hc1
        obtain ⟨R2, hR2⟩ : ∃ R2 : Int, R2 = if linkI hf first (fs.take N) = T then 0 else 154 := ⟨_, rfl⟩
        rw [← hR2] at hc2
        have HR2 := Lib.hid hR2
        have HC1 := Lib.hid (show Calls Tryd.prog 12 #[dv first, dv T, .slice pv N cv] w9.drew fun e w' => e = .returned (.int .i64 0) ∧ Mod [] w9.drew w' from by
          have h := check_in (hf := hf) first T H32.out HT32.out pv cv N (es.take N) w9.drew E1.out (HX.out.mod0 M9.out.drew) (HH.out.mod0 (MW.out.trans0 M9.out.drew))
          rw [hc1] at h; exact h)
        have HC2 := Lib.hid (fun (V : World) (m : Mod [] w9 V) => (show Calls Tryd.prog 12 #[dv first, dv T, .slice pu N cu] V fun e w' => e = .returned (.int .i64 R2) ∧ Mod [] V w' from by
          have h := check_in (hf := hf) first T H32.out HT32.out pu cu N (fs.take N) V E2.out (HY.out.mod0 (M9.out.trans0 m)) (HH.out.mod0 (MW.out.trans0 (M9.out.trans0 m)))
          rw [hc2] at h; exact h))
        have HAL := Lib.hid (fun (V : World) (m : Mod [] w9 V) => alike_any pv pu cv cu N N (es.take N) (fs.take N) V E1.out E2.out (HX.out.mod0 (M9.out.trans0 m)) (HY.out.mod0 (M9.out.trans0 m)) (by rw [← E1.out, ← E2.out]) (by rw [← E1.out]; omega))
        unfold dv at l5b l6 HC1 HC2 HLT HL5
        rw [← HSS.out] at l5b HC1 HC2 HL5
        obtain ⟨ts, hts⟩ : ∃ ts, ts = (T.map V8).toArray := ⟨_, rfl⟩
        rw [← hts] at l6 HC1 HC2 HLT
        have q3 : (N : Int) < (N : Int) + 1 := by omega
        clear hrd hk9 ho9 m9 hdT hdl hT hc1 hc2 hR2 hts l5 HLK
        go_wp2_with fail
        go_still_tail 8, (by kernel_rfl)
        change wpList _ _ _ _ _ w9.drew
        go_wp2_with fail
        refine HC1.out.mono ?_
        rintro e w10 ⟨rfl, m10⟩
        have M10 := Lib.hid ((Mod.refl [] w9).drew.trans0 m10)
        have l5c := HL5.out w10.drew (M9.out.trans0 M10.out.drew)
        have l6c := HLT.out w10.drew M10.out.drew
        clear m10 l5b l6
        go_wp2_with fail
        go_still_tail 8, (by kernel_rfl)
        change wpList _ _ _ _ _ w10.drew
        go_wp2_with fail
        refine (HC2.out _ M10.out.drew).mono ?_
        rintro e w11 ⟨rfl, m11⟩
        have M11 := Lib.hid (M10.out.drew.trans0 m11)
        clear m11 l5c l6c
        go_wp2_with fail
        go_still_tail 6, (by kernel_rfl)
        change wpList _ _ _ _ _ w11.drew
        go_wp2_with fail
        refine (HAL.out _ M11.out.drew).mono ?_
        rintro e w12 ⟨b, rfl, hbA, m12⟩
        have M12 := Lib.hid (M9.out.trans0 (M11.out.drew.trans0 m12))
        have MF := Lib.hid (MW.out.trans0 M12.out)
        have hbF : b = true ↔ N ≤ F' := hbA.trans (fork_all HFO.out HN1.out HN2.out)
        clear m12 hbA HAL HC1 HC2 HLT
        cases b
        · have hne : ¬ F' = N := fun h => by have := hbF.2 (by omega); cases this
          have hn2 : (F' == N) = false := by simpa using hne
          have hn3 : ((F' : Int) == (N : Int)) = false := by simp; omega
          have HFNL := Lib.hid (show F' < N by have := HFN.out; omega)
          clear hbF
          by_cases hl : linkI hf first (fs.take N) = T
          · have hR : R2 = 0 := by rw [HR2.out, if_pos hl]
            subst hR
            have hun : ∃ (j : Nat) (x y : Ev), j < N ∧ es[j]? = some x ∧ fs[j]? = some y ∧ sameE x.1 y.1 = false := by
              obtain ⟨x, hx⟩ : ∃ x, es[F']? = some x := ⟨_, List.getElem?_eq_getElem (by have := HFNL.out; have := HN1.out; omega)⟩
              obtain ⟨y, hy⟩ : ∃ y, fs[F']? = some y := ⟨_, List.getElem?_eq_getElem (by have := HFNL.out; have := HN2.out; omega)⟩
              exact ⟨F', x, y, HFNL.out, hx, hy, HFO.out.un x y hx hy⟩
            obtain ⟨i0, hi0, hcl⟩ := clash_of hf HH.out.len first H32.out es fs HRO.out.fine HRO2.out.fine N HN1.out HN2.out (by rw [hl]; exact HTQ.out.symm) hun
            have HCL := Lib.hid (fun (V : World) (m : Mod [] w12 V) => clash_true (hf := hf) first H32.out pv pu cv cu N i0 (es.take N) (fs.take N) V E1.out E2.out
              (HX.out.mod0 (M12.out.trans0 m)) (HY.out.mod0 (M12.out.trans0 m)) (HH.out.mod0 (MF.out.trans0 m)) (HRF.out.mod0 (MF.out.trans0 m))
              (fun x hx => HRO.out.fine x (List.mem_of_mem_take hx)) (fun x hx => HRO2.out.fine x (List.mem_of_mem_take hx)) hi0 (hcl.take hi0))
            unfold dv at HCL
            rw [← HSS.out] at HCL
            have l5 := HL5.out w12.drew M12.out.drew
            clear hl hun hi0 hcl
            go_wp2_with fail
            go_still_tail 22, (by kernel_rfl)
            change wpList _ _ _ _ _ w12.drew
            go_wp2_with fail
            refine (HCL.out _ (Mod.refl [] w12).drew).mono ?_
            rintro e w13 ⟨rfl, m13⟩
            have MQ := Lib.hid (MF.out.trans0 ((Mod.refl [] w12).drew.trans0 m13))
            clear m13 l5
            go_wp2_with fail
            go_ret
            exact ⟨rfl, MQ.out⟩
          · have hR : R2 = 154 := by rw [HR2.out, if_neg hl]
            subst hR
            have l5q := fun n => HL5.out (w12.drewN n) (M12.out.drewN n)
            clear hl
            go_wp2_with fail
            go_quiet (fail)
            have MQ := Lib.hid (MF.out.drewN nq)
            clear l5q
            go_wp2_with fail
            go_ret
            exact ⟨rfl, MQ.out⟩
        · obtain rfl : F' = N := by have := hbF.1 rfl; have := HFN.out; omega
          have hR : R2 = 0 := by
            rw [HR2.out, HTQ.out, if_pos (linkI_fork hf first HFO.out F' (Nat.le_refl _)).symm]
          subst hR
          have l5q := fun n => HL5.out (w12.drewN n) (M12.out.drewN n)
          clear hbF
          go_wp2_with fail
          go_quiet (fail)
          have MQ := Lib.hid (MF.out.drewN nq)
          clear l5q
          go_wp2_with fail
          go_ret
          exact ⟨rfl, MQ.out⟩
end Go.Proofs.YtmdgefiojapogaaDoor
