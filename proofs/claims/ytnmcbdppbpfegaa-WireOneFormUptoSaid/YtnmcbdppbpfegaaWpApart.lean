/- 'apart' of wire's laws. Condition: at most 2^39 bytes. -/
import Derived.Test.YtnmcbdppbpfegaaWpForm
namespace Go.Proofs.Ytnmcbdppbpfegaa
open Go.RowKit
attribute [local go_sem high] one8 st8 cm8 b_and8 b_and8r b_and8l b_or8 b_or8r b_or8l b_xor8 b_xor8r b_xor8l b_andNot8 b_andNot8r b_andNot8l b_add8 b_add8r b_add8l b_sub8 b_sub8r b_sub8l b_mul8 b_mul8r b_mul8l b_eql8 b_eql8r b_eql8l b_neq8 b_neq8r b_neq8l b_lss8 b_lss8r b_lss8l b_leq8 b_leq8r b_leq8l b_gtr8 b_gtr8r b_gtr8l b_geq8 b_geq8r b_geq8l b_quo8r b_rem8r b_shl8r b_shr8r b_shl8l b_shr8l u_xor8 g_eql8 g_neq8 g_eql8' g_neq8' one32 st32 cm32 b_and32 b_and32r b_and32l b_or32 b_or32r b_or32l b_xor32 b_xor32r b_xor32l b_andNot32 b_andNot32r b_andNot32l b_add32 b_add32r b_add32l b_sub32 b_sub32r b_sub32l b_mul32 b_mul32r b_mul32l b_eql32 b_eql32r b_eql32l b_neq32 b_neq32r b_neq32l b_lss32 b_lss32r b_lss32l b_leq32 b_leq32r b_leq32l b_gtr32 b_gtr32r b_gtr32l b_geq32 b_geq32r b_geq32l b_quo32r b_rem32r b_shl32r b_shr32r b_shl32l b_shr32l u_xor32 g_eql32 g_neq32 g_eql32' g_neq32' one64 st64 cm64 b_and64 b_and64r b_and64l b_or64 b_or64r b_or64l b_xor64 b_xor64r b_xor64l b_andNot64 b_andNot64r b_andNot64l b_add64 b_add64r b_add64l b_sub64 b_sub64r b_sub64l b_mul64 b_mul64r b_mul64l b_eql64 b_eql64r b_eql64l b_neq64 b_neq64r b_neq64l b_lss64 b_lss64r b_lss64l b_leq64 b_leq64r b_leq64l b_gtr64 b_gtr64r b_gtr64l b_geq64 b_geq64r b_geq64l b_quo64r b_rem64r b_shl64r b_shr64r b_shl64l b_shr64l u_xor64 g_eql64 g_neq64 g_eql64' g_neq64' c_u8_u8 c_u8_u32 c_u8_u64 c_i_u8 c_u32_u8 c_u32_u32 c_u32_u64 c_i_u32 c_u64_u8 c_u64_u32 c_u64_u64 c_i_u64 c_u8_i c_u32_i
attribute [local go_sem ↓] ce8 ce32 ce64
attribute [local go_sem ↓] sliced_slp loadODg storeODg loadOAd storeOAd loadOWd storeOWd loadOSt storeOSt
/-- Are two values of a kind unlike? -/
def apB (a b : Sp) : Nat → Bool
  | 0 => byteOf a.n != byteOf b.n
  | 1 => oddOf a.n != oddOf b.n
  | 2 => ((pk a.n 9223372036854775807 : Nat) : Int) != ((pk b.n 9223372036854775807 : Nat) : Int)
  | 3 => !decide (a.b = b.b)
  | 4 => !(a.w.1 == b.w.1)
  | 5 => !(firstN 32 a.b == firstN 32 b.b)
  | _ => !(firstN 20 a.b == firstN 20 b.b)
theorem apB_2 (a b : Sp) : apB a b 2 = (((pk a.n 9223372036854775807 : Nat) : Int) != ((pk b.n 9223372036854775807 : Nat) : Int)) := by
  simp only [apB]
set_option maxRecDepth 100000 in
theorem apart_0 (a b : Sp) (w : World) (ha : SpOk w w.heap.size a) (hb : SpOk w w.heap.size b) (hkd : a.kind = 0) :
    Calls Try.prog 26 #[spv a, spv b] w fun e w' => e = .returned (.bool (apB a b 0)) ∧ Mod [] w w' := by
  obtain ⟨W, hW⟩ : ∃ W, W = (w.alloc (.cells a.cells.toArray 48)).alloc (.cells b.cells.toArray 48) := ⟨_, rfl⟩
  have hba : W.heap[w.heap.size]? = some (.cells a.cells.toArray 48 (0, 0)) := by rw [hW]; exact hp_old (hp_new w _ _ rfl)
  have hbb : W.heap[w.heap.size + 1]? = some (.cells b.cells.toArray 48 (0, 0)) := by rw [hW]; exact hp_new _ _ _ (by simp)
  have hm : Mod [] w W := by rw [hW]; exact ((Mod.refl [] w).alloc _).alloc _
  have xa := box_sp hba
  have xb := box_sp hbb
  have ak := xa.fk
  rw [hkd] at ak
  have an := xa.fn
  have ab := xa.fb
  have aw := xa.fw
  have bn := xb.fn
  have bb := xb.fb
  have bw := xb.fw
  have HPK := Lib.hid (fun w1 => pick_any 0 7 w1 (by decide) (by decide) (by decide) (by decide))
  rw [show pk 0 7 = 0 from by decide] at HPK
  have HA := Lib.hid (ha.mod0 hm)
  have HB := Lib.hid (hb.mod0 hm)
  have HM := Lib.hid hm
  have cva := cv_byte a.n
  have cvb := cv_byte b.n
  have ar := ha.rd.mod0 hm
  have br := hb.rd.mod0 hm
  have AR := Lib.hid ar
  have BR := Lib.hid br
  have al := ha.len
  have bl := hb.len
  have HAB := Lib.hid hba
  have HBB := Lib.hid hbb
  have hs := hm.size
  unfold spv
  obtain ⟨cs, hcs⟩ : ∃ cs, cs = a.cells.toArray := ⟨_, rfl⟩
  obtain ⟨ds, hds⟩ : ∃ ds, ds = b.cells.toArray := ⟨_, rfl⟩
  rw [← hcs, ← hds] at hW
  rw [← hcs] at HAB ⊢
  rw [← hds] at HBB ⊢
  have HW := Lib.hid hW
  rw [hW] at ak an ab aw bn bb bw
  clear ha hb hm hba hbb xa xb hkd hcs hds ar br hW
  go_enter Try.func26, Try.ntmps26
  go_wp2_with fail
  refine (HPK.out _).mono ?_
  rintro e w5 ⟨rfl, rfl⟩
  go_wp2_with fail
  go_ret
  exact ⟨rfl, by rw [← HW.out]; exact HM.out⟩
set_option maxRecDepth 100000 in
theorem apart_1 (a b : Sp) (w : World) (ha : SpOk w w.heap.size a) (hb : SpOk w w.heap.size b) (hkd : a.kind = 1) :
    Calls Try.prog 26 #[spv a, spv b] w fun e w' => e = .returned (.bool (apB a b 1)) ∧ Mod [] w w' := by
  obtain ⟨W, hW⟩ : ∃ W, W = (w.alloc (.cells a.cells.toArray 48)).alloc (.cells b.cells.toArray 48) := ⟨_, rfl⟩
  have hba : W.heap[w.heap.size]? = some (.cells a.cells.toArray 48 (0, 0)) := by rw [hW]; exact hp_old (hp_new w _ _ rfl)
  have hbb : W.heap[w.heap.size + 1]? = some (.cells b.cells.toArray 48 (0, 0)) := by rw [hW]; exact hp_new _ _ _ (by simp)
  have hm : Mod [] w W := by rw [hW]; exact ((Mod.refl [] w).alloc _).alloc _
  have xa := box_sp hba
  have xb := box_sp hbb
  have ak := xa.fk
  rw [hkd] at ak
  have an := xa.fn
  have ab := xa.fb
  have aw := xa.fw
  have bn := xb.fn
  have bb := xb.fb
  have bw := xb.fw
  have HPK := Lib.hid (fun w1 => pick_any 1 7 w1 (by decide) (by decide) (by decide) (by decide))
  rw [show pk 1 7 = 1 from by decide] at HPK
  have HA := Lib.hid (ha.mod0 hm)
  have HB := Lib.hid (hb.mod0 hm)
  have HM := Lib.hid hm
  have cva := cv_byte a.n
  have cvb := cv_byte b.n
  have ar := ha.rd.mod0 hm
  have br := hb.rd.mod0 hm
  have AR := Lib.hid ar
  have BR := Lib.hid br
  have al := ha.len
  have bl := hb.len
  have HAB := Lib.hid hba
  have HBB := Lib.hid hbb
  have hs := hm.size
  unfold spv
  obtain ⟨cs, hcs⟩ : ∃ cs, cs = a.cells.toArray := ⟨_, rfl⟩
  obtain ⟨ds, hds⟩ : ∃ ds, ds = b.cells.toArray := ⟨_, rfl⟩
  rw [← hcs, ← hds] at hW
  rw [← hcs] at HAB ⊢
  rw [← hds] at HBB ⊢
  have HW := Lib.hid hW
  rw [hW] at ak an ab aw bn bb bw
  clear ha hb hm hba hbb xa xb hkd hcs hds ar br hW
  have hoa : ((a.n.tmod 2) != 0) = oddOf a.n := rfl
  have hob : ((b.n.tmod 2) != 0) = oddOf b.n := rfl
  go_enter Try.func26, Try.ntmps26
  go_wp2_with fail
  refine (HPK.out _).mono ?_
  rintro e w5 ⟨rfl, rfl⟩
  go_wp2_with fail
  go_ret
  exact ⟨rfl, by rw [← HW.out]; exact HM.out⟩
set_option maxRecDepth 100000 in
theorem apart_2 (a b : Sp) (w : World) (ha : SpOk w w.heap.size a) (hb : SpOk w w.heap.size b) (hkd : a.kind = 2) :
    Calls Try.prog 26 #[spv a, spv b] w fun e w' => e = .returned (.bool (apB a b 2)) ∧ Mod [] w w' := by
  obtain ⟨W, hW⟩ : ∃ W, W = (w.alloc (.cells a.cells.toArray 48)).alloc (.cells b.cells.toArray 48) := ⟨_, rfl⟩
  have hba : W.heap[w.heap.size]? = some (.cells a.cells.toArray 48 (0, 0)) := by rw [hW]; exact hp_old (hp_new w _ _ rfl)
  have hbb : W.heap[w.heap.size + 1]? = some (.cells b.cells.toArray 48 (0, 0)) := by rw [hW]; exact hp_new _ _ _ (by simp)
  have hm : Mod [] w W := by rw [hW]; exact ((Mod.refl [] w).alloc _).alloc _
  have xa := box_sp hba
  have xb := box_sp hbb
  have ak := xa.fk
  rw [hkd] at ak
  have an := xa.fn
  have ab := xa.fb
  have aw := xa.fw
  have bn := xb.fn
  have bb := xb.fb
  have bw := xb.fw
  have HPK := Lib.hid (fun w1 => pick_any 2 7 w1 (by decide) (by decide) (by decide) (by decide))
  rw [show pk 2 7 = 2 from by decide] at HPK
  have HA := Lib.hid (ha.mod0 hm)
  have HB := Lib.hid (hb.mod0 hm)
  have HM := Lib.hid hm
  have cva := cv_byte a.n
  have cvb := cv_byte b.n
  have ar := ha.rd.mod0 hm
  have br := hb.rd.mod0 hm
  have AR := Lib.hid ar
  have BR := Lib.hid br
  have al := ha.len
  have bl := hb.len
  have HAB := Lib.hid hba
  have HBB := Lib.hid hbb
  have hs := hm.size
  unfold spv
  obtain ⟨cs, hcs⟩ : ∃ cs, cs = a.cells.toArray := ⟨_, rfl⟩
  obtain ⟨ds, hds⟩ : ∃ ds, ds = b.cells.toArray := ⟨_, rfl⟩
  rw [← hcs, ← hds] at hW
  rw [← hcs] at HAB ⊢
  rw [← hds] at HBB ⊢
  have HW := Lib.hid hW
  rw [hW] at ak an ab aw bn bb bw
  clear ha hb hm hba hbb xa xb hkd hcs hds ar br hW
  obtain ⟨R, hR⟩ : ∃ R, R = apB a b 2 := ⟨_, rfl⟩
  rw [← hR]
  rw [apB_2] at hR
  obtain ⟨g, hg⟩ : ∃ g : Int → Nat, g = fun n => pk n 9223372036854775807 := ⟨_, rfl⟩
  have hg1 : ∀ n, pk n 9223372036854775807 = g n := fun n => (congrFun hg n).symm
  have HP := Lib.hid (fun n (i0 : -9223372036854775808 ≤ n) (i1 : n ≤ 9223372036854775807) w1 => pick_any n 9223372036854775807 w1 i0 i1 (by decide) (by decide))
  simp only [hg1] at HP hR
  have HR := Lib.hid hR
  clear hR hg hg1
  go_enter Try.func26, Try.ntmps26
  go_wp2_with fail
  refine (HPK.out _).mono ?_
  rintro e w5 ⟨rfl, rfl⟩
  rw [← HW.out] at ak an ab aw bn bb bw ⊢
  go_wp2_with fail
  go_quiet ((go_at_call 12; exact Calls.quiet_of_same ((HP.out _ (by first | exact HA.out.n0 | exact HB.out.n0) (by first | exact HA.out.n1 | exact HB.out.n1) _).mono (fun e w h => ⟨h.1, h.2.symm⟩))))
  go_wp2_with fail
  go_ret
  exact ⟨by rw [HR.out]; rfl, HM.out.drewN _⟩
set_option maxRecDepth 100000 in
theorem apart_3 (a b : Sp) (w : World) (ha : SpOk w w.heap.size a) (hb : SpOk w w.heap.size b) (hkd : a.kind = 3) :
    Calls Try.prog 26 #[spv a, spv b] w fun e w' => e = .returned (.bool (apB a b 3)) ∧ Mod [] w w' := by
  obtain ⟨W, hW⟩ : ∃ W, W = (w.alloc (.cells a.cells.toArray 48)).alloc (.cells b.cells.toArray 48) := ⟨_, rfl⟩
  have hba : W.heap[w.heap.size]? = some (.cells a.cells.toArray 48 (0, 0)) := by rw [hW]; exact hp_old (hp_new w _ _ rfl)
  have hbb : W.heap[w.heap.size + 1]? = some (.cells b.cells.toArray 48 (0, 0)) := by rw [hW]; exact hp_new _ _ _ (by simp)
  have hm : Mod [] w W := by rw [hW]; exact ((Mod.refl [] w).alloc _).alloc _
  have xa := box_sp hba
  have xb := box_sp hbb
  have ak := xa.fk
  rw [hkd] at ak
  have an := xa.fn
  have ab := xa.fb
  have aw := xa.fw
  have bn := xb.fn
  have bb := xb.fb
  have bw := xb.fw
  have HPK := Lib.hid (fun w1 => pick_any 3 7 w1 (by decide) (by decide) (by decide) (by decide))
  rw [show pk 3 7 = 3 from by decide] at HPK
  have HA := Lib.hid (ha.mod0 hm)
  have HB := Lib.hid (hb.mod0 hm)
  have HM := Lib.hid hm
  have cva := cv_byte a.n
  have cvb := cv_byte b.n
  have ar := ha.rd.mod0 hm
  have br := hb.rd.mod0 hm
  have AR := Lib.hid ar
  have BR := Lib.hid br
  have al := ha.len
  have bl := hb.len
  have HAB := Lib.hid hba
  have HBB := Lib.hid hbb
  have hs := hm.size
  unfold spv
  obtain ⟨cs, hcs⟩ : ∃ cs, cs = a.cells.toArray := ⟨_, rfl⟩
  obtain ⟨ds, hds⟩ : ∃ ds, ds = b.cells.toArray := ⟨_, rfl⟩
  rw [← hcs, ← hds] at hW
  rw [← hcs] at HAB ⊢
  rw [← hds] at HBB ⊢
  have HW := Lib.hid hW
  rw [hW] at ak an ab aw bn bb bw
  clear ha hb hm hba hbb xa xb hkd hcs hds ar br hW
  go_enter Try.func26, Try.ntmps26
  go_wp2_with fail
  refine (HPK.out _).mono ?_
  rintro e w5 ⟨rfl, rfl⟩
  rw [← HW.out] at ak an ab aw bn bb bw ⊢
  go_wp2_with fail
  refine (same_any a.bp b.bp a.bcap b.bcap a.b b.b W AR.out BR.out (by omega)).mono ?_
  rintro e w6 ⟨rfl, nn, hw6⟩
  have hm6 : Mod [] w w6 := by rw [hw6]; exact HM.out.drewN nn
  clear hw6
  go_wp2_with fail
  go_ret
  exact ⟨rfl, hm6⟩
set_option maxRecDepth 100000 in
theorem apart_4 (a b : Sp) (w : World) (ha : SpOk w w.heap.size a) (hb : SpOk w w.heap.size b) (hkd : a.kind = 4) :
    Calls Try.prog 26 #[spv a, spv b] w fun e w' => e = .returned (.bool (apB a b 4)) ∧ Mod [] w w' := by
  obtain ⟨W, hW⟩ : ∃ W, W = (w.alloc (.cells a.cells.toArray 48)).alloc (.cells b.cells.toArray 48) := ⟨_, rfl⟩
  have hba : W.heap[w.heap.size]? = some (.cells a.cells.toArray 48 (0, 0)) := by rw [hW]; exact hp_old (hp_new w _ _ rfl)
  have hbb : W.heap[w.heap.size + 1]? = some (.cells b.cells.toArray 48 (0, 0)) := by rw [hW]; exact hp_new _ _ _ (by simp)
  have hm : Mod [] w W := by rw [hW]; exact ((Mod.refl [] w).alloc _).alloc _
  have xa := box_sp hba
  have xb := box_sp hbb
  have ak := xa.fk
  rw [hkd] at ak
  have an := xa.fn
  have ab := xa.fb
  have aw := xa.fw
  have bn := xb.fn
  have bb := xb.fb
  have bw := xb.fw
  have HPK := Lib.hid (fun w1 => pick_any 4 7 w1 (by decide) (by decide) (by decide) (by decide))
  rw [show pk 4 7 = 4 from by decide] at HPK
  have HA := Lib.hid (ha.mod0 hm)
  have HB := Lib.hid (hb.mod0 hm)
  have HM := Lib.hid hm
  have cva := cv_byte a.n
  have cvb := cv_byte b.n
  have ar := ha.rd.mod0 hm
  have br := hb.rd.mod0 hm
  have AR := Lib.hid ar
  have BR := Lib.hid br
  have al := ha.len
  have bl := hb.len
  have HAB := Lib.hid hba
  have HBB := Lib.hid hbb
  have hs := hm.size
  unfold spv
  obtain ⟨cs, hcs⟩ : ∃ cs, cs = a.cells.toArray := ⟨_, rfl⟩
  obtain ⟨ds, hds⟩ : ∃ ds, ds = b.cells.toArray := ⟨_, rfl⟩
  rw [← hcs, ← hds] at hW
  rw [← hcs] at HAB ⊢
  rw [← hds] at HBB ⊢
  have HW := Lib.hid hW
  rw [hW] at ak an ab aw bn bb bw
  clear ha hb hm hba hbb xa xb hkd hcs hds ar br hW
  have hnw := fun w => neqWide w a.w b.w
  have gnw := fun (w : World) (op : BinOp) (x y : Operand) (p q : Array Value) => run_eqGuard_agg (P := Try.prog) w op 46 x y p q Try.eqGuardType46
  go_enter Try.func26, Try.ntmps26
  go_wp2_with fail
  refine (HPK.out _).mono ?_
  rintro e w5 ⟨rfl, rfl⟩
  go_wp2_with fail
  go_ret
  exact ⟨rfl, by rw [← HW.out]; exact HM.out⟩
set_option maxRecDepth 100000 in
theorem apart_5 (a b : Sp) (w : World) (ha : SpOk w w.heap.size a) (hb : SpOk w w.heap.size b) (hkd : a.kind = 5) :
    Calls Try.prog 26 #[spv a, spv b] w fun e w' => e = .returned (.bool (apB a b 5)) ∧ Mod [] w w' := by
  obtain ⟨W, hW⟩ : ∃ W, W = (w.alloc (.cells a.cells.toArray 48)).alloc (.cells b.cells.toArray 48) := ⟨_, rfl⟩
  have hba : W.heap[w.heap.size]? = some (.cells a.cells.toArray 48 (0, 0)) := by rw [hW]; exact hp_old (hp_new w _ _ rfl)
  have hbb : W.heap[w.heap.size + 1]? = some (.cells b.cells.toArray 48 (0, 0)) := by rw [hW]; exact hp_new _ _ _ (by simp)
  have hm : Mod [] w W := by rw [hW]; exact ((Mod.refl [] w).alloc _).alloc _
  have xa := box_sp hba
  have xb := box_sp hbb
  have ak := xa.fk
  rw [hkd] at ak
  have an := xa.fn
  have ab := xa.fb
  have aw := xa.fw
  have bn := xb.fn
  have bb := xb.fb
  have bw := xb.fw
  have HPK := Lib.hid (fun w1 => pick_any 5 7 w1 (by decide) (by decide) (by decide) (by decide))
  rw [show pk 5 7 = 5 from by decide] at HPK
  have HA := Lib.hid (ha.mod0 hm)
  have HB := Lib.hid (hb.mod0 hm)
  have HM := Lib.hid hm
  have cva := cv_byte a.n
  have cvb := cv_byte b.n
  have ar := ha.rd.mod0 hm
  have br := hb.rd.mod0 hm
  have AR := Lib.hid ar
  have BR := Lib.hid br
  have al := ha.len
  have bl := hb.len
  have HAB := Lib.hid hba
  have HBB := Lib.hid hbb
  have hs := hm.size
  unfold spv
  obtain ⟨cs, hcs⟩ : ∃ cs, cs = a.cells.toArray := ⟨_, rfl⟩
  obtain ⟨ds, hds⟩ : ∃ ds, ds = b.cells.toArray := ⟨_, rfl⟩
  rw [← hcs, ← hds] at hW
  rw [← hcs] at HAB ⊢
  rw [← hds] at HBB ⊢
  have HW := Lib.hid hW
  rw [hW] at ak an ab aw bn bb bw
  clear ha hb hm hba hbb xa xb hkd hcs hds ar br hW
  have hnw := fun w => neqDg w (firstN 32 a.b) (firstN 32 b.b) (firstN_length 32 a.b) (firstN_length 32 b.b)
  have gnw := fun (w : World) (op : BinOp) (x y : Operand) (p q : Array Value) => run_eqGuard_agg (P := Try.prog) w op 88 x y p q Try.eqGuardType88
  go_enter Try.func26, Try.ntmps26
  go_wp2_with fail
  refine (HPK.out _).mono ?_
  rintro e w5 ⟨rfl, rfl⟩
  rw [← HW.out] at ak an ab aw bn bb bw ⊢
  have HDA := Lib.hid (fun w1 (h1 : Mod [] W w1) => digest_any a.bp a.bcap a.b w1 (AR.out.mod0 h1))
  have HDB := Lib.hid (fun w1 (h1 : Mod [] W w1) => digest_any b.bp b.bcap b.b w1 (BR.out.mod0 h1))
  have HCA := Lib.hid (fun w1 (h1 : Mod [] W w1) => (show w1.cell? ⟨w.heap.size, 2, none⟩ = some (.slice a.bp a.b.length a.bcap) from (World.cell?_of_block (w := W) (h1.block _ (lt_of_block HAB.out) (by simp))).trans ab))
  have HCB := Lib.hid (fun w1 (h1 : Mod [] W w1) => (show w1.cell? ⟨w.heap.size + 1, 2, none⟩ = some (.slice b.bp b.b.length b.bcap) from (World.cell?_of_block (w := W) (h1.block _ (lt_of_block HBB.out) (by simp))).trans bb))
  have h0 : Mod [] W W.drew := (Mod.refl [] W).drew
  clear ak an aw bn bw cva cvb
  go_wp2_with fail
  go_region_held3 (fun w' => w'.cell? ⟨w.heap.size, 2, none⟩ = some (.slice a.bp a.b.length a.bcap) ∧ w'.cell? ⟨w.heap.size + 1, 2, none⟩ = some (.slice b.bp b.b.length b.bcap) ∧ Mod [] W w')
    (first
      | exact ⟨HCA.out _ h0, HCB.out _ h0, h0⟩
      | exact ⟨by assumption, by assumption, by assumption⟩)
    (first
      | (go_at_call 56
         refine (HDA.out _ (by assumption)).mono ?_
         rintro e w6 ⟨rfl, m6⟩
         have m7 : Mod [] W w6 := Mod.trans0 (by assumption) m6
         have c7 := HCA.out _ m7
         have c8 := HCB.out _ m7
         clear m6)
      | (go_at_call 56
         refine (HDB.out _ (by assumption)).mono ?_
         rintro e w6 ⟨rfl, m6⟩
         have m7 : Mod [] W w6 := Mod.trans0 (by assumption) m6
         have c7 := HCA.out _ m7
         have c8 := HCB.out _ m7
         clear m6))
  all_goals
    go_wp2_with fail
    go_ret
    exact ⟨rfl, HM.out.trans0 (by assumption)⟩
set_option maxRecDepth 100000 in
theorem apart_6 (a b : Sp) (w : World) (ha : SpOk w w.heap.size a) (hb : SpOk w w.heap.size b) (hkd : a.kind = 6) :
    Calls Try.prog 26 #[spv a, spv b] w fun e w' => e = .returned (.bool (apB a b 6)) ∧ Mod [] w w' := by
  obtain ⟨W, hW⟩ : ∃ W, W = (w.alloc (.cells a.cells.toArray 48)).alloc (.cells b.cells.toArray 48) := ⟨_, rfl⟩
  have hba : W.heap[w.heap.size]? = some (.cells a.cells.toArray 48 (0, 0)) := by rw [hW]; exact hp_old (hp_new w _ _ rfl)
  have hbb : W.heap[w.heap.size + 1]? = some (.cells b.cells.toArray 48 (0, 0)) := by rw [hW]; exact hp_new _ _ _ (by simp)
  have hm : Mod [] w W := by rw [hW]; exact ((Mod.refl [] w).alloc _).alloc _
  have xa := box_sp hba
  have xb := box_sp hbb
  have ak := xa.fk
  rw [hkd] at ak
  have an := xa.fn
  have ab := xa.fb
  have aw := xa.fw
  have bn := xb.fn
  have bb := xb.fb
  have bw := xb.fw
  have HPK := Lib.hid (fun w1 => pick_any 6 7 w1 (by decide) (by decide) (by decide) (by decide))
  rw [show pk 6 7 = 6 from by decide] at HPK
  have HA := Lib.hid (ha.mod0 hm)
  have HB := Lib.hid (hb.mod0 hm)
  have HM := Lib.hid hm
  have cva := cv_byte a.n
  have cvb := cv_byte b.n
  have ar := ha.rd.mod0 hm
  have br := hb.rd.mod0 hm
  have AR := Lib.hid ar
  have BR := Lib.hid br
  have al := ha.len
  have bl := hb.len
  have HAB := Lib.hid hba
  have HBB := Lib.hid hbb
  have hs := hm.size
  unfold spv
  obtain ⟨cs, hcs⟩ : ∃ cs, cs = a.cells.toArray := ⟨_, rfl⟩
  obtain ⟨ds, hds⟩ : ∃ ds, ds = b.cells.toArray := ⟨_, rfl⟩
  rw [← hcs, ← hds] at hW
  rw [← hcs] at HAB ⊢
  rw [← hds] at HBB ⊢
  have HW := Lib.hid hW
  rw [hW] at ak an ab aw bn bb bw
  clear ha hb hm hba hbb xa xb hkd hcs hds ar br hW
  have hnw := fun w => neqAd w (firstN 20 a.b) (firstN 20 b.b) (firstN_length 20 a.b) (firstN_length 20 b.b)
  have gnw := fun (w : World) (op : BinOp) (x y : Operand) (p q : Array Value) => run_eqGuard_agg (P := Try.prog) w op 92 x y p q Try.eqGuardType92
  go_enter Try.func26, Try.ntmps26
  go_wp2_with fail
  refine (HPK.out _).mono ?_
  rintro e w5 ⟨rfl, rfl⟩
  rw [← HW.out] at ak an ab aw bn bb bw ⊢
  have HDA := Lib.hid (fun w1 (h1 : Mod [] W w1) => address_any a.bp a.bcap a.b w1 (AR.out.mod0 h1))
  have HDB := Lib.hid (fun w1 (h1 : Mod [] W w1) => address_any b.bp b.bcap b.b w1 (BR.out.mod0 h1))
  have HCA := Lib.hid (fun w1 (h1 : Mod [] W w1) => (show w1.cell? ⟨w.heap.size, 2, none⟩ = some (.slice a.bp a.b.length a.bcap) from (World.cell?_of_block (w := W) (h1.block _ (lt_of_block HAB.out) (by simp))).trans ab))
  have HCB := Lib.hid (fun w1 (h1 : Mod [] W w1) => (show w1.cell? ⟨w.heap.size + 1, 2, none⟩ = some (.slice b.bp b.b.length b.bcap) from (World.cell?_of_block (w := W) (h1.block _ (lt_of_block HBB.out) (by simp))).trans bb))
  have h0 : Mod [] W W.drew := (Mod.refl [] W).drew
  clear ak an aw bn bw cva cvb
  go_wp2_with fail
  go_region_held3 (fun w' => w'.cell? ⟨w.heap.size, 2, none⟩ = some (.slice a.bp a.b.length a.bcap) ∧ w'.cell? ⟨w.heap.size + 1, 2, none⟩ = some (.slice b.bp b.b.length b.bcap) ∧ Mod [] W w')
    (first
      | exact ⟨HCA.out _ h0, HCB.out _ h0, h0⟩
      | exact ⟨by assumption, by assumption, by assumption⟩)
    (first
      | (go_at_call 59
         refine (HDA.out _ (by assumption)).mono ?_
         rintro e w6 ⟨rfl, m6⟩
         have m7 : Mod [] W w6 := Mod.trans0 (by assumption) m6
         have c7 := HCA.out _ m7
         have c8 := HCB.out _ m7
         clear m6)
      | (go_at_call 59
         refine (HDB.out _ (by assumption)).mono ?_
         rintro e w6 ⟨rfl, m6⟩
         have m7 : Mod [] W w6 := Mod.trans0 (by assumption) m6
         have c7 := HCA.out _ m7
         have c8 := HCB.out _ m7
         clear m6))
  all_goals
    go_wp2_with fail
    go_ret
    exact ⟨rfl, HM.out.trans0 (by assumption)⟩
theorem apart_any (a b : Sp) (w : World) (ha : SpOk w w.heap.size a) (hb : SpOk w w.heap.size b) (k : Nat) (hk7 : k < 7) (hkd : a.kind = (k : Int)) :
    Calls Try.prog 26 #[spv a, spv b] w fun e w' => e = .returned (.bool (apB a b k)) ∧ Mod [] w w' := by
  match k, hk7 with
  | 0, _ => exact apart_0 a b w ha hb hkd
  | 1, _ => exact apart_1 a b w ha hb hkd
  | 2, _ => exact apart_2 a b w ha hb hkd
  | 3, _ => exact apart_3 a b w ha hb hkd
  | 4, _ => exact apart_4 a b w ha hb hkd
  | 5, _ => exact apart_5 a b w ha hb hkd
  | 6, _ => exact apart_6 a b w ha hb hkd
end Go.Proofs.Ytnmcbdppbpfegaa
