/- WireApart, the walk. Condition: at most 2^20 bytes. -/
import Derived.Test.YtnmcbdppbpfegaaWpPure
import Derived.Test.YtnmcbdppbpfegaaWnKnown
namespace Go.Proofs.Ytnmcbdppbpfegaa
open Go.RowKit
attribute [local go_sem high] one8 st8 cm8 b_and8 b_and8r b_and8l b_or8 b_or8r b_or8l b_xor8 b_xor8r b_xor8l b_andNot8 b_andNot8r b_andNot8l b_add8 b_add8r b_add8l b_sub8 b_sub8r b_sub8l b_mul8 b_mul8r b_mul8l b_eql8 b_eql8r b_eql8l b_neq8 b_neq8r b_neq8l b_lss8 b_lss8r b_lss8l b_leq8 b_leq8r b_leq8l b_gtr8 b_gtr8r b_gtr8l b_geq8 b_geq8r b_geq8l b_quo8r b_rem8r b_shl8r b_shr8r b_shl8l b_shr8l u_xor8 g_eql8 g_neq8 g_eql8' g_neq8' one32 st32 cm32 b_and32 b_and32r b_and32l b_or32 b_or32r b_or32l b_xor32 b_xor32r b_xor32l b_andNot32 b_andNot32r b_andNot32l b_add32 b_add32r b_add32l b_sub32 b_sub32r b_sub32l b_mul32 b_mul32r b_mul32l b_eql32 b_eql32r b_eql32l b_neq32 b_neq32r b_neq32l b_lss32 b_lss32r b_lss32l b_leq32 b_leq32r b_leq32l b_gtr32 b_gtr32r b_gtr32l b_geq32 b_geq32r b_geq32l b_quo32r b_rem32r b_shl32r b_shr32r b_shl32l b_shr32l u_xor32 g_eql32 g_neq32 g_eql32' g_neq32' one64 st64 cm64 b_and64 b_and64r b_and64l b_or64 b_or64r b_or64l b_xor64 b_xor64r b_xor64l b_andNot64 b_andNot64r b_andNot64l b_add64 b_add64r b_add64l b_sub64 b_sub64r b_sub64l b_mul64 b_mul64r b_mul64l b_eql64 b_eql64r b_eql64l b_neq64 b_neq64r b_neq64l b_lss64 b_lss64r b_lss64l b_leq64 b_leq64r b_leq64l b_gtr64 b_gtr64r b_gtr64l b_geq64 b_geq64r b_geq64l b_quo64r b_rem64r b_shl64r b_shr64r b_shl64l b_shr64l u_xor64 g_eql64 g_neq64 g_eql64' g_neq64' c_u8_u8 c_u8_u32 c_u8_u64 c_i_u8 c_u32_u8 c_u32_u32 c_u32_u64 c_i_u32 c_u64_u8 c_u64_u32 c_u64_u64 c_i_u64 c_u8_i c_u32_i
attribute [local go_sem ↓] ce8 ce32 ce64
attribute [local go_sem ↓] sliced_slp loadODg storeODg loadOAd storeOAd loadOWd storeOWd loadOSt storeOSt
/-- A step of another kind. -/
def Sp.as (s : Sp) (k : Int) : Sp := { s with kind := k }
theorem Sp.as_cells (s : Sp) (k : Int) : s.cells.toArray.setIfInBounds 0 (.int .i64 k) = (s.as k).cells.toArray := by
  simp [Sp.as, Sp.cells]
theorem SpOk.as {w : World} {B : Nat} {s : Sp} (h : SpOk w B s) (k : Int) : SpOk w B (s.as k) := ⟨h.n0, h.n1, h.rd, h.lt, h.len⟩
theorem SpOk.up {w : World} {B B' : Nat} {s : Sp} (h : SpOk w B s) (hB : B ≤ B') : SpOk w B' s := ⟨h.n0, h.n1, h.rd, fun hne x hx => Nat.lt_of_lt_of_le (h.lt hne x hx) hB, h.len⟩
theorem apB_as (a b : Sp) (x y : Int) (k : Nat) : apB (a.as x) (b.as y) k = apB a b k := by
  unfold apB; rfl
set_option maxRecDepth 100000 in
set_option maxHeartbeats 1000000 in
theorem apart_law (a b : Sp) (w : World) (ha : SpOk w w.heap.size a) (hb : SpOk w w.heap.size b) (k0 : -9223372036854775808 ≤ a.kind) (k1 : a.kind ≤ 9223372036854775807) (hla : a.b.length ≤ 1048576) (hlb : b.b.length ≤ 1048576) (hxa : a.l.length ≤ 1048576) (hxb : b.l.length ≤ 1048576) :
    Calls Try.prog 5 #[spv a, spv b] w fun e w' => e = .returned (.bool true) ∧ Mod [] w w' := by
  obtain ⟨W, hW⟩ : ∃ W, W = (w.alloc (.cells a.cells.toArray 48)).alloc (.cells b.cells.toArray 48) := ⟨_, rfl⟩
  have hba : W.heap[w.heap.size]? = some (.cells a.cells.toArray 48 (0, 0)) := by rw [hW]; exact hp_old (hp_new w _ _ rfl)
  have hbb : W.heap[w.heap.size + 1]? = some (.cells b.cells.toArray 48 (0, 0)) := by rw [hW]; exact hp_new _ _ _ (by simp)
  have hm : Mod [] w W := by rw [hW]; exact ((Mod.refl [] w).alloc _).alloc _
  have HFA := Lib.hid (fun (w1 : World) (h1 : Mod [] W w1) => (box_sp (h1.get0 hba)).fa)
  have HFB := Lib.hid (fun (w1 : World) (h1 : Mod [] W w1) => (box_sp (h1.get0 hbb)).fa)
  have HAB := Lib.hid hba
  have HBB := Lib.hid hbb
  have HM := Lib.hid hm
  have HOA := Lib.hid ha
  have HOB := Lib.hid hb
  have HK := Lib.hid known_any
  have HSA := Lib.hid (fun w1 => size_any a w1 ha.len (by omega))
  have HSB := Lib.hid (fun w1 => size_any b w1 hb.len (by omega))
  obtain ⟨sa, hsa⟩ : ∃ sa : Int, sa = 64 + 4 * (a.b.length : Int) + 10 * (a.l.length : Int) := ⟨_, rfl⟩
  obtain ⟨sb, hsb⟩ : ∃ sb : Int, sb = 64 + 4 * (b.b.length : Int) + 10 * (b.l.length : Int) := ⟨_, rfl⟩
  rw [← hsa] at HSA
  rw [← hsb] at HSB
  have HW := Lib.hid hW
  obtain ⟨va, hva⟩ : ∃ va, va = spv a := ⟨_, rfl⟩
  obtain ⟨vb, hvb⟩ : ∃ vb, vb = spv b := ⟨_, rfl⟩
  rw [← hva] at HFA HSA
  rw [← hvb] at HFB HSB
  have HVA := Lib.hid hva
  have HVB := Lib.hid hvb
  unfold spv
  obtain ⟨cs, hcs⟩ : ∃ cs, cs = a.cells.toArray := ⟨_, rfl⟩
  obtain ⟨ds, hds⟩ : ∃ ds, ds = b.cells.toArray := ⟨_, rfl⟩
  have HCS := Lib.hid hcs
  have HDS := Lib.hid hds
  rw [← hcs] at HAB HW ⊢
  rw [← hds] at HBB HW ⊢
  have h0 : Mod [] W W.drew := (Mod.refl [] W).drew
  clear ha hb hm hba hbb hcs hds hW hva hvb
  have hcase : (decide (4194304 < sa) = true) ∨ (decide (4194304 < sa) = false ∧ decide (4194304 < sb) = true) ∨ (decide (4194304 < sa) = false ∧ decide (4194304 < sb) = false) := by
    cases decide (4194304 < sa) <;> cases decide (4194304 < sb) <;> simp
  clear hsa hsb
  rcases hcase with da | ⟨da, db⟩ | ⟨da, db⟩
  · go_enter Try.func5, Try.ntmps5
    go_wp2_with fail
    rw [← HW.out]
    refine (HK.out _).mono ?_
    rintro e w5 ⟨rfl, m5⟩
    have c1 := HFA.out _ m5
    have M5 := Lib.hid m5
    clear h0 m5
    go_wp2_with fail
    refine (HSA.out _).mono ?_
    rintro e w6 ⟨rfl, m6⟩
    have m7 := M5.out.trans0 m6
    have c2 := HFB.out _ m7
    have M7 := Lib.hid m7
    clear m6 m7 c1
    go_wp2_with fail
    refine (HK.out _).mono ?_
    rintro e w9 ⟨rfl, m9⟩
    have M10 := Lib.hid (HM.out.trans0 (M7.out.trans0 m9))
    clear m9
    go_wp2_with fail
    go_ret
    exact ⟨rfl, M10.out⟩
  · go_enter Try.func5, Try.ntmps5
    go_wp2_with fail
    rw [← HW.out]
    refine (HK.out _).mono ?_
    rintro e w5 ⟨rfl, m5⟩
    have c1 := HFA.out _ m5
    have M5 := Lib.hid m5
    clear h0 m5
    go_wp2_with fail
    refine (HSA.out _).mono ?_
    rintro e w6 ⟨rfl, m6⟩
    have m7 := M5.out.trans0 m6
    have c2 := HFB.out _ m7
    have M7 := Lib.hid m7
    clear m6 m7 c1
    go_wp2_with fail
    refine (HSB.out _).mono ?_
    rintro e w8 ⟨rfl, m8⟩
    have M9 := Lib.hid (M7.out.trans0 m8)
    clear m8 c2
    go_wp2_with fail
    refine (HK.out _).mono ?_
    rintro e w9 ⟨rfl, m9⟩
    have M10 := Lib.hid (HM.out.trans0 (M9.out.trans0 m9))
    clear m9
    go_wp2_with fail
    go_ret
    exact ⟨rfl, M10.out⟩
  · go_enter Try.func5, Try.ntmps5
    go_wp2_with fail
    rw [← HW.out]
    refine (HK.out _).mono ?_
    rintro e w5 ⟨rfl, m5⟩
    have c1 := HFA.out _ m5
    have M5 := Lib.hid m5
    clear h0 m5
    go_wp2_with fail
    refine (HSA.out _).mono ?_
    rintro e w6 ⟨rfl, m6⟩
    have m7 := M5.out.trans0 m6
    have c2 := HFB.out _ m7
    have M7 := Lib.hid m7
    clear m6 m7 c1
    go_wp2_with fail
    refine (HSB.out _).mono ?_
    rintro e w8 ⟨rfl, m8⟩
    have M9 := Lib.hid (M7.out.trans0 m8)
    clear m8 c2
    have hblk := M9.out.get0 HAB.out
    have hblk2 := M9.out.get0 HBB.out
    have ck : w8.cell? ⟨w.heap.size, 0, none⟩ = some (.int .i64 a.kind) := by rw [cell_blk hblk, HCS.out]; rfl
    have f1 := frozen_blk hblk 0
    have HPK := Lib.hid (fun w1 => pick_any a.kind 7 w1 k0 k1 (by decide) (by decide))
    have hkl : pk a.kind 7 < 7 := by have := pk_lt a.kind 7 (by decide); omega
    obtain ⟨k, hk⟩ : ∃ k, k = pk a.kind 7 := ⟨_, rfl⟩
    rw [← hk] at HPK hkl
    obtain ⟨W6, hW6⟩ : ∃ W, W = w8.setCell ⟨w.heap.size, 0, none⟩ (.int .i64 (k : Int)) := ⟨_, rfl⟩
    have ha6 : W6.heap[w.heap.size]? = some (.cells (a.as k).cells.toArray 48 (0, 0)) := by rw [hW6, hp_sc hblk, HCS.out, Sp.as_cells]
    have hb6 : W6.heap[w.heap.size + 1]? = some (.cells b.cells.toArray 48 (0, 0)) := by rw [hW6, hp_sc_ne hblk2 (by omega), HDS.out]
    have ck6 : W6.cell? ⟨w.heap.size, 0, none⟩ = some (.int .i64 (k : Int)) := (box_sp ha6).fk
    have f6 := frozen_blk hb6 0
    have cb6 : W6.cell? ⟨w.heap.size + 1, 0, none⟩ = some (.int .i64 b.kind) := (box_sp hb6).fk
    have hbk6 := hb6
    obtain ⟨W7, hW7⟩ : ∃ W, W = W6.setCell ⟨w.heap.size + 1, 0, none⟩ (.int .i64 (k : Int)) := ⟨_, rfl⟩
    have ha7 : W7.heap[w.heap.size]? = some (.cells (a.as k).cells.toArray 48 (0, 0)) := by rw [hW7, hp_sc_ne ha6 (by omega)]
    have hb7 : W7.heap[w.heap.size + 1]? = some (.cells (b.as k).cells.toArray 48 (0, 0)) := by rw [hW7, hp_sc hb6, Sp.as_cells]
    have h67 : Mod [w.heap.size] w8 W6 := by rw [hW6]; exact (Mod.refl _ _).setCell (p := ⟨w.heap.size, 0, none⟩) (.inl (by simp)) _
    have h68 : Mod [w.heap.size, w.heap.size + 1] w8 W7 := by
      rw [hW7]
      exact (h67.mono (S' := [w.heap.size, w.heap.size + 1]) (fun x hx => .inl (by simp at hx; simp [hx]))).setCell (p := ⟨w.heap.size + 1, 0, none⟩) (.inl (by simp)) _
    have HM7 := Lib.hid ((HM.out.trans0 M9.out).trans h68 (fun x hx => .inr (by simp at hx; omega)))
    have HA7 := Lib.hid ha7
    have HB7 := Lib.hid hb7
    have HW6 := Lib.hid hW6
    have HW7 := Lib.hid hW7
    have HKL := Lib.hid hkl
    clear hblk hblk2 hk ha6 hb6 hbk6 ha7 hb7 h67 h68 hkl hW7
    rw [hW6] at ck6 f6 cb6
    clear hW6
    go_wp2_with fail
    refine (HPK.out _).mono ?_
    rintro e w9 ⟨rfl, rfl⟩
    have hfa : (LoadO 48 (.pointer (some ⟨w.heap.size, 0, none⟩))).run Try.prog W7 = .ok (spv (a.as k)) W7 := (box_sp HA7.out).fa
    rw [HW7.out, HW6.out] at hfa
    obtain ⟨fa, hFa⟩ : ∃ fa, fa = (a.as k).form k := ⟨_, rfl⟩
    obtain ⟨fb, hFb⟩ : ∃ fb, fb = (b.as k).form k := ⟨_, rfl⟩
    have hla2 := form_len (a.as k) hla k HKL.out
    have hlb2 := form_len (b.as k) hlb k HKL.out
    have HOA7 := Lib.hid (((HOA.out.mod0 HM7.out).as k).up HM7.out.size)
    have HOB7 := Lib.hid (((HOB.out.mod0 HM7.out).as k).up HM7.out.size)
    have hfm := form03_any (a.as k) W7 HOA7.out k HKL.out rfl hla2.2
    have hFB := fun (w1 : World) (h1 : Mod [] W7 w1) => form03_any (b.as k) w1 ((HOB7.out.mod0 h1).up h1.size) k HKL.out rfl hlb2.2
    have hAP := fun (w1 : World) (h1 : Mod [] W7 w1) => apart_any (a.as k) (b.as k) w1 ((HOA7.out.mod0 h1).up h1.size) ((HOB7.out.mod0 h1).up h1.size) k HKL.out rfl
    rw [← hFa] at hfm hla2
    rw [← hFb] at hlb2
    simp only [← hFb] at hFB
    rw [HW7.out, HW6.out] at hfm
    have HFAR := Lib.hid hfm
    have HFBR := Lib.hid hFB
    have HAP := Lib.hid hAP
    have HFa := Lib.hid hFa
    have HFb := Lib.hid hFb
    obtain ⟨pa1, pa2⟩ := hla2
    obtain ⟨pb1, pb2⟩ := hlb2
    have ea : ((fa.length : Int) == 0) = false := by rw [beq_eq_false_iff_ne]; omega
    have eb : ((fb.length : Int) == 0) = false := by rw [beq_eq_false_iff_ne]; omega
    clear hfm hFB hAP hFa hFb
    go_wp2_with fail
    refine HFAR.out.mono ?_
    rintro e w10 ⟨r1, rfl, o1, m10⟩
    rw [← HW6.out, ← HW7.out] at m10 o1
    obtain ⟨p1, cap1, hr1, rd1, _⟩ := o1.rd
    subst hr1
    have hfb : (LoadO 48 (.pointer (some ⟨w.heap.size + 1, 0, none⟩))).run Try.prog w10 = .ok (spv (b.as k)) w10 := (box_sp (m10.get0 HB7.out)).fa
    have M10 := Lib.hid m10
    have RD1 := Lib.hid rd1
    clear o1 m10 rd1 hfa ck f1 ck6 f6 cb6
    go_wp2_with fail
    refine (HFBR.out _ M10.out).mono ?_
    rintro e w11 ⟨r2, rfl, o2, m11⟩
    obtain ⟨p2, cap2, hr2, rd2, _⟩ := o2.rd
    subst hr2
    have M11 := Lib.hid (M10.out.trans0 m11)
    have R1 := Lib.hid (RD1.out.mod0 m11)
    have R2 := Lib.hid rd2
    clear o2 m11 rd2 hfb
    have ga : (LoadO 48 (.pointer (some ⟨w.heap.size, 0, none⟩))).run Try.prog w11 = .ok (spv (a.as k)) w11 := (box_sp (M11.out.get0 HA7.out)).fa
    have gb : (LoadO 48 (.pointer (some ⟨w.heap.size + 1, 0, none⟩))).run Try.prog w11 = .ok (spv (b.as k)) w11 := (box_sp (M11.out.get0 HB7.out)).fa
    go_wp2_with fail
    refine (HAP.out _ M11.out).mono ?_
    rintro e w12 ⟨rfl, m12⟩
    have M12 := Lib.hid (HM7.out.trans0 (M11.out.trans0 m12))
    have HG1 := Lib.hid (fun w1 (h1 : Mod [] w11 w1) => begins_any p1 p2 cap1 cap2 fa fb w1 (R1.out.mod0 h1) (R2.out.mod0 h1) (by omega))
    have HG2 := Lib.hid (fun w1 (h1 : Mod [] w11 w1) => begins_any p2 p1 cap2 cap1 fb fa w1 (R2.out.mod0 h1) (R1.out.mod0 h1) (by omega))
    have HS := Lib.hid (same_any p1 p2 cap1 cap2 fa fb w12 (R1.out.mod0 m12) (R2.out.mod0 m12) (by omega))
    have HMM := Lib.hid m12
    clear m12 ga gb
    cases hap : apB (a.as k) (b.as k) k with
    | false =>
      have he : fa = fb := by rw [HFa.out, HFb.out]; exact alike_same _ _ k HKL.out hap
      have hdc : decide (fa = fb) = true := by simpa using he
      rw [hdc] at HS
      clear he hdc
      go_wp2_with fail
      refine HS.out.mono ?_
      rintro e w13 ⟨rfl, n, rfl⟩
      go_wp2_with fail
      go_ret
      exact ⟨rfl, M12.out.drewN n⟩
    | true =>
      obtain ⟨u1, u2⟩ := unlike_apart (a.as k) (b.as k) HOA.out.len HOB.out.len k HKL.out hap
      rw [← HFa.out, ← HFb.out] at u1 u2
      rw [u1] at HG1
      rw [u2] at HG2
      clear u1 u2
      go_wp2_with fail
      refine (HG1.out _ HMM.out).mono ?_
      rintro e w13 ⟨rfl, n, rfl⟩
      go_wp2_with fail
      refine (HG2.out _ (HMM.out.drewN n)).mono ?_
      rintro e w14 ⟨rfl, n2, rfl⟩
      go_wp2_with fail
      go_ret
      exact ⟨rfl, M12.out.drewN (n + n2)⟩
end Go.Proofs.Ytnmcbdppbpfegaa
