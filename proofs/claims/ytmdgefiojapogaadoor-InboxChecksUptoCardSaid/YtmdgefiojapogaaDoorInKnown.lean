/- known of inbox's laws. Conditions: the three tables lie in their variables. -/
import Derived.Test.YtmdgefiojapogaaDoorInSame
namespace Go.Proofs.YtmdgefiojapogaaDoor
open Go.RowKit
attribute [local go_sem high] one8 st8 cm8 b_and8 b_and8r b_and8l b_or8 b_or8r b_or8l b_xor8 b_xor8r b_xor8l b_andNot8 b_andNot8r b_andNot8l b_add8 b_add8r b_add8l b_sub8 b_sub8r b_sub8l b_mul8 b_mul8r b_mul8l b_eql8 b_eql8r b_eql8l b_neq8 b_neq8r b_neq8l b_lss8 b_lss8r b_lss8l b_leq8 b_leq8r b_leq8l b_gtr8 b_gtr8r b_gtr8l b_geq8 b_geq8r b_geq8l b_quo8r b_rem8r b_shl8r b_shr8r b_shl8l b_shr8l u_xor8 g_eql8 g_neq8 g_eql8' g_neq8' one32 st32 cm32 b_and32 b_and32r b_and32l b_or32 b_or32r b_or32l b_xor32 b_xor32r b_xor32l b_andNot32 b_andNot32r b_andNot32l b_add32 b_add32r b_add32l b_sub32 b_sub32r b_sub32l b_mul32 b_mul32r b_mul32l b_eql32 b_eql32r b_eql32l b_neq32 b_neq32r b_neq32l b_lss32 b_lss32r b_lss32l b_leq32 b_leq32r b_leq32l b_gtr32 b_gtr32r b_gtr32l b_geq32 b_geq32r b_geq32l b_quo32r b_rem32r b_shl32r b_shr32r b_shl32l b_shr32l u_xor32 g_eql32 g_neq32 g_eql32' g_neq32' one64 st64 cm64 b_and64 b_and64r b_and64l b_or64 b_or64r b_or64l b_xor64 b_xor64r b_xor64l b_andNot64 b_andNot64r b_andNot64l b_add64 b_add64r b_add64l b_sub64 b_sub64r b_sub64l b_mul64 b_mul64r b_mul64l b_eql64 b_eql64r b_eql64l b_neq64 b_neq64r b_neq64l b_lss64 b_lss64r b_lss64l b_leq64 b_leq64r b_leq64l b_gtr64 b_gtr64r b_gtr64l b_geq64 b_geq64r b_geq64l b_quo64r b_rem64r b_shl64r b_shr64r b_shl64l b_shr64l u_xor64 g_eql64 g_neq64 g_eql64' g_neq64' c_u8_u8 c_u8_u32 c_u8_u64 c_i_u8 c_u32_u8 c_u32_u32 c_u32_u64 c_i_u32 c_u64_u8 c_u64_u32 c_u64_u64 c_i_u64 c_u8_i c_u32_i
attribute [local go_sem ↓] ce8 ce32 ce64
attribute [local go_sem ↓] sliced_slp loadO26 storeO26 loadOEn storeOEn buildZDg buildZEn
/-- The entry that known takes. -/
def knownEn (q : Option Addr) : En := ⟨2, zeros 20, 5, 0, zeros 20, [0, 0, 0, 0], 0, ⟨q, 3, [5, 1, 1]⟩⟩
theorem knownEn_ln (q : Option Addr) : (knownEn q).Ln := ⟨zeros_length 20, zeros_length 20, rfl⟩
theorem knownEn_fine (q : Option Addr) : (knownEn q).fine = true := by rfl
theorem builtKn (q : Option Addr) : Tryd.prog.built 35 [(0, .int .i64 2), (2, .int .i64 5), (7, .slice q 3 3)] = some ((knownEn q).cells.toArray) := by kernel_rfl
theorem sameE_refl (a b : En) (h1 : a.kind = b.kind) (h2 : a.snd = b.snd) (h3 : a.time = b.time) (h4 : a.tok = b.tok) (h5 : a.to = b.to) (h6 : a.amt = b.amt) (h7 : a.gas = b.gas) (h8 : a.body.d = b.body.d) : sameE a b = true := by
  unfold sameE; simp [h1, h2, h3, h4, h5, h6, h7, h8]
set_option maxRecDepth 100000 in
theorem known_any {hf : Bs → Bs} (w : World) (H : Hs hf w) (R : Rf w) :
    Calls Tryd.prog 9 #[] w fun e w' => e = .returned (.bool true) ∧ Mod [] w w' := by
  have HH := Lib.hid H
  have HRF := Lib.hid R
  clear H R
  go_enter Tryd.func9, Tryd.ntmps9
  go_wp2_with fail
  refine (newBox_any w.heap.size w (Nat.le_refl _)).mono ?_
  rintro e w1 ⟨g, rfl, hg, hbx, m1⟩
  have HBX := Lib.hid hbx
  have HGL := Lib.hid hbx.lt
  have M1 := Lib.hid m1
  obtain ⟨q, hq⟩ : ∃ q : Option Addr, q = some ⟨w1.heap.size, 0, none⟩ := ⟨_, rfl⟩
  have bz := fun w => run_buildZ w 35 #[(0, .int .i64 2), (2, .int .i64 5), (7, .slice q 3 3)] _ (builtKn q)
  obtain ⟨x, hx⟩ : ∃ x, x = knownEn q := ⟨_, rfl⟩
  have hxl : x.Ln := by rw [hx]; exact knownEn_ln q
  rw [← hx] at bz
  have hS := storeNewEn (w1.alloc (.cells #[.int .u8 5, .int .u8 1, .int .u8 1] 5)) x hxl
  rw [hq] at bz
  have HXL := Lib.hid hxl
  have HX := Lib.hid hx
  have HQ := Lib.hid hq
  clear hbx hg m1 hx hq hxl
  rw [alloc_hs] at hS
  have hb2 := hp_new (w1.alloc (.cells #[.int .u8 5, .int .u8 1, .int .u8 1] 5)) (.cells x.cells.toArray 35) (w1.heap.size + 1) (by simp)
  have hL2 := (enBox HXL.out hb2).ln
  have hq2 := hp_old (o := .cells x.cells.toArray 35) (hp_new w1 (.cells #[.int .u8 5, .int .u8 1, .int .u8 1] 5) _ rfl)
  obtain ⟨cs, hcs⟩ : ∃ cs, cs = x.cells.toArray := ⟨_, rfl⟩
  rw [← hcs] at bz hS hL2 hb2 hq2
  have HCS := Lib.hid hcs
  have M2 := Lib.hid (((Mod.refl [] w1).alloc (.cells #[.int .u8 5, .int .u8 1, .int .u8 1] 5)).alloc (.cells cs 35))
  obtain ⟨w2, hw2⟩ : ∃ w2, w2 = ((w1.alloc (.cells #[.int .u8 5, .int .u8 1, .int .u8 1] 5)).alloc (.cells cs 35)) := ⟨_, rfl⟩
  rw [← hw2] at hb2 hq2 M2
  have HB2 := Lib.hid hb2
  have HQ2 := Lib.hid hq2
  have HW2 := Lib.hid hw2
  obtain ⟨n1, hn1⟩ : ∃ n1, n1 = w1.heap.size := ⟨_, rfl⟩
  have HN1 := Lib.hid hn1
  have HRX := Lib.hid (fun (V : World) (h : V.heap[w1.heap.size]? = some (.cells #[.int .u8 5, .int .u8 1, .int .u8 1] 5)) => show Rd V8 V x.body.p x.body.cap x.body.d from by
    rw [HX.out]
    show Rd V8 V q 3 [5, 1, 1]
    rw [HQ.out]
    exact Rd.of_blk h (fun j v hv => by
      have h2 : ([.int .u8 5, .int .u8 1, .int .u8 1] : List Value)[j]? = some v := hv
      simpa using h2) (by simp))
  have HB := Lib.hid (HBX.out.mod0 M2.out)
  have hfi : x.fine = true := by rw [HX.out]; exact knownEn_fine q
  have hADD := add_ok (hf := hf) w.heap.size g (.slice none 0 0) (.slice none 0 0) [] [] x w2 HB.out HXL.out (HRX.out w2 hq2) (HH.out.mod0 (M1.out.trans0 M2.out)) hfi rfl (by simp) (by rw [HX.out]; simp [knownEn])
  rw [← hcs] at hADD
  have HADD := Lib.hid hADD
  clear hb2 hq2 hw2 hcs hADD hfi hn1
  go_wp2_with fail
  rw [← HW2.out]
  refine HADD.out.mono ?_
  rintro e w3 ⟨rfl, ve, vl, y, hyd, ⟨z, hz, hbox, m3⟩⟩
  have m3' : Mod [g] w2 w3 := m3
  have hng : g < w1.heap.size := HGL.out
  have HB3 := Lib.hid (m3'.get HB2.out (by rw [List.mem_singleton]; omega))
  have HQ3 := Lib.hid (m3'.get HQ2.out (by rw [List.mem_singleton]; omega))
  have HBOX := Lib.hid hbox
  have HZ := Lib.hid hz
  have HYD := Lib.hid hyd
  have HE := Lib.hid (entry_any w.heap.size g ve vl _ _ w3 hbox 0)
  have M3 := Lib.hid (show Mod [] w w3 from (M1.out.trans0 M2.out).trans m3' (fun b hb => by rw [List.mem_singleton.1 hb]; exact .inr HBX.out.base))
  clear m3 m3' hbox hz hyd hng hL2 bz hS
  go_wp2_with fail
  refine HE.out.mono ?_
  rintro e w4 ⟨x', hx'l, rfl, hx', m4⟩
  have hif : (0 : Int) ≤ 0 ∧ (0 : Int) < (([] ++ [z] : List Ev).length : Int) := by simp
  rw [if_pos hif] at hx'
  rw [if_pos hif]
  obtain ⟨zz, y', hzz, hyd', hxx, ho'⟩ := hx'
  have hzz2 : zz = z := by simpa using hzz.symm
  subst hzz2
  have hS4 := storeNewEn w4 x' hx'l
  have hb5 := hp_new w4 (.cells x'.cells.toArray 35) _ rfl
  have M5 := Lib.hid (m4.alloc (.cells x'.cells.toArray 35))
  have HRZ := Lib.hid (show Rd V8 w4 y'.p y'.cap y'.d from own_rd (by rw [hyd']; exact ho'))
  have HXQ := Lib.hid hxx
  have HYE := Lib.hid hyd'
  have HXP := Lib.hid hx'l
  obtain ⟨X, hX⟩ : ∃ X, X = nextH hf (zeros 32) x := ⟨_, rfl⟩
  have hlk0 : nextH hf (lk ([] : List Bs) (([] : List Ev).length : Int)) x = X := by rw [hX]; rfl
  rw [hlk0] at HBOX
  have HX32 := Lib.hid (show X.length = 32 from HBOX.out.k32 X (by simp))
  have HLK := Lib.hid (link_any w.heap.size g ve vl _ _ _ (HBOX.out.mod0 M5.out) 1)
  rw [show lk ([] ++ [X]) 1 = X by simp [lk], show lkE ([] ++ [zz] : List Ev).length 1 = 0 by simp [lkE]] at HLK
  obtain ⟨xs, hxs⟩ : ∃ xs, xs = x'.cells.toArray := ⟨_, rfl⟩
  rw [← hxs] at hS4 HLK M5 hb5 ⊢
  have HXS := Lib.hid hxs
  have HB5 := Lib.hid hb5
  have HXX := Lib.hid hX
  clear hx'l hif hzz hyd' hxx ho' m4 hb5 hX hlk0 hxs
  go_wp2_with fail
  refine HLK.out.mono ?_
  rintro e w5 ⟨rfl, m5⟩
  have hS5 := storeNewD w5 X HX32.out
  have M6 := Lib.hid (m5.alloc (.cells (X.map V8).toArray 24))
  have hb7 := hp_new w5 (.cells (X.map V8).toArray 24) _ rfl
  have HB7 := Lib.hid hb7
  have M36 := Lib.hid (M5.out.trans0 M6.out)
  have bzd : ∀ w, (BuildZ 24 #[]).run Tryd.prog w = .ok (dv (zeros 32)) w := fun w => run_buildZ w 24 #[] _ builtDg
  have hb2w6 := M36.out.get0 HB3.out
  rw [HCS.out] at hb2w6
  have hL6 := (enBox HXL.out hb2w6).ln
  rw [← HCS.out, ← HN1.out] at hL6
  have hnx := rnext_any (hf := hf) (zeros 32) (zeros_length 32) x _ HXL.out (HRX.out _ (M36.out.get0 HQ3.out)) (HH.out.mod0 (M3.out.trans0 M36.out)) (HRF.out.mod0 (M3.out.trans0 M36.out))
  rw [← HXX.out, ← HCS.out, show nextE x = 0 by rw [HX.out]; rfl] at hnx
  have HNX := Lib.hid hnx
  rw [← HN1.out]
  clear m5 hb7 hb2w6 hnx hS4
  go_wp2_with fail
  refine HNX.out.mono ?_
  rintro e w7 ⟨rfl, m7⟩
  have hS7 := storeNewD w7 X HX32.out
  have m8 := m7.alloc (.cells (X.map V8).toArray 24)
  have M38 := Lib.hid (M36.out.trans0 m8)
  have hL7 := loadDv X HX32.out (m8.get0 HB7.out)
  have hL9 := loadDv X HX32.out (hp_new w7 (.cells (X.map V8).toArray 24) _ rfl)
  have hEQ := fun w => eqD w X X HX32.out HX32.out
  have hEG := eqGuardD
  have hXX : (X == X) = true := by simp
  simp only [hXX] at hEQ
  have HLEN := Lib.hid (boxLen_any w.heap.size g ve vl _ _ _ (HBOX.out.mod0 M38.out))
  have hb5 := m8.get0 (M6.out.get0 HB5.out)
  rw [HXS.out] at hb5
  have hL5 := (enBox HXP.out hb5).ln
  rw [← HXS.out] at hL5
  have hb2 := M38.out.get0 HB3.out
  rw [HCS.out] at hb2
  have hL2 := (enBox HXL.out hb2).ln
  rw [← HCS.out, ← HN1.out] at hL2
  have hsame := same_any x' x _ HXP.out HXL.out (by rw [HXQ.out]; exact HRZ.out.mod0 (((Mod.refl [] w4).alloc (.cells xs 35)).trans0 (M6.out.trans0 m8))) (HRX.out _ (M38.out.get0 HQ3.out))
  rw [show sameE x' x = true from sameE_refl _ _ (by rw [HXQ.out, HZ.out]; rfl) (by rw [HXQ.out, HZ.out]; rfl) (by rw [HXQ.out, HZ.out]; rfl) (by rw [HXQ.out, HZ.out]; rfl) (by rw [HXQ.out, HZ.out]; rfl) (by rw [HXQ.out, HZ.out]; rfl) (by rw [HXQ.out, HZ.out]; rfl) (by rw [HXQ.out]; show y'.d = _; rw [HYE.out, HZ.out]; exact HYD.out), ← HXS.out, ← HCS.out] at hsame
  have HSAME := Lib.hid hsame
  have HMF := Lib.hid (M3.out.trans0 M38.out)
  clear m7 m8 hb5 hb2 hsame hS5 bzd hL6 hXX
  go_wp2_with fail
  refine HLEN.out.mono ?_
  rintro e w9 ⟨rfl, rfl⟩
  go_wp2_with fail
  refine HSAME.out.mono ?_
  rintro e w10 ⟨rfl, m10⟩
  have HM10 := Lib.hid (HMF.out.trans0 m10)
  clear m10
  go_wp2_with fail
  go_ret
  exact ⟨rfl, HM10.out⟩
end Go.Proofs.YtmdgefiojapogaaDoor
