/- Same of inbox's reference. No condition. -/
import Derived.Test.YtmdgefiojapogaaDoorInAdd
import Derived.Test.YtmdgefiojapogaaDoorLawLib
namespace Go.Proofs.YtmdgefiojapogaaDoor
open Go.RowKit
attribute [local go_sem high] one8 st8 cm8 b_and8 b_and8r b_and8l b_or8 b_or8r b_or8l b_xor8 b_xor8r b_xor8l b_andNot8 b_andNot8r b_andNot8l b_add8 b_add8r b_add8l b_sub8 b_sub8r b_sub8l b_mul8 b_mul8r b_mul8l b_eql8 b_eql8r b_eql8l b_neq8 b_neq8r b_neq8l b_lss8 b_lss8r b_lss8l b_leq8 b_leq8r b_leq8l b_gtr8 b_gtr8r b_gtr8l b_geq8 b_geq8r b_geq8l b_quo8r b_rem8r b_shl8r b_shr8r b_shl8l b_shr8l u_xor8 g_eql8 g_neq8 g_eql8' g_neq8' one32 st32 cm32 b_and32 b_and32r b_and32l b_or32 b_or32r b_or32l b_xor32 b_xor32r b_xor32l b_andNot32 b_andNot32r b_andNot32l b_add32 b_add32r b_add32l b_sub32 b_sub32r b_sub32l b_mul32 b_mul32r b_mul32l b_eql32 b_eql32r b_eql32l b_neq32 b_neq32r b_neq32l b_lss32 b_lss32r b_lss32l b_leq32 b_leq32r b_leq32l b_gtr32 b_gtr32r b_gtr32l b_geq32 b_geq32r b_geq32l b_quo32r b_rem32r b_shl32r b_shr32r b_shl32l b_shr32l u_xor32 g_eql32 g_neq32 g_eql32' g_neq32' one64 st64 cm64 b_and64 b_and64r b_and64l b_or64 b_or64r b_or64l b_xor64 b_xor64r b_xor64l b_andNot64 b_andNot64r b_andNot64l b_add64 b_add64r b_add64l b_sub64 b_sub64r b_sub64l b_mul64 b_mul64r b_mul64l b_eql64 b_eql64r b_eql64l b_neq64 b_neq64r b_neq64l b_lss64 b_lss64r b_lss64l b_leq64 b_leq64r b_leq64l b_gtr64 b_gtr64r b_gtr64l b_geq64 b_geq64r b_geq64l b_quo64r b_rem64r b_shl64r b_shr64r b_shl64l b_shr64l u_xor64 g_eql64 g_neq64 g_eql64' g_neq64' c_u8_u8 c_u8_u32 c_u8_u64 c_i_u8 c_u32_u8 c_u32_u32 c_u32_u64 c_i_u32 c_u64_u8 c_u64_u32 c_u64_u64 c_i_u64 c_u8_i c_u32_i
attribute [local go_sem ↓] ce8 ce32 ce64
attribute [local go_sem ↓] sliced_slp loadOAd storeOAd loadOWd storeOWd
def sameE (a b : En) : Bool := (a.kind == b.kind) && (a.snd == b.snd) && (a.time == b.time) && (a.tok == b.tok) && (a.to == b.to) && (a.amt == b.amt) && (a.gas == b.gas) && (a.body.d == b.body.d)
set_option maxRecDepth 100000 in
theorem same_0 (a b : En) (w : World) (ha : a.Ln) (hb : b.Ln) (ra : Rd V8 w a.body.p a.body.cap a.body.d) (rb : Rd V8 w b.body.p b.body.cap b.body.d) (hK : (a.kind == b.kind) = false) : Calls Tryd.prog 16 #[.agg a.cells.toArray, .agg b.cells.toArray] w fun e w' => e = .returned (.bool false) ∧ Mod [] w w' := by
  have K1 := enBox ha (hp_old (o := .cells b.cells.toArray 35) (hp_new w (.cells a.cells.toArray 35) _ rfl))
  have K2 := enBox hb (hp_new (w.alloc (.cells a.cells.toArray 35)) (.cells b.cells.toArray 35) (w.heap.size + 1) (by simp))
  have ka : ((w.alloc (.cells a.cells.toArray 35)).alloc (.cells b.cells.toArray 35)).cell? ⟨w.heap.size, 0, none⟩ = some (.int .i64 a.kind) := K1.c0
  have kb : ((w.alloc (.cells a.cells.toArray 35)).alloc (.cells b.cells.toArray 35)).cell? ⟨w.heap.size + 1, 0, none⟩ = some (.int .i64 b.kind) := K2.c0
  have HM := Lib.hid (((Mod.refl [] w).alloc (.cells a.cells.toArray 35)).alloc (.cells b.cells.toArray 35))
  obtain ⟨ca, hca⟩ : ∃ ca, ca = a.cells.toArray := ⟨_, rfl⟩
  obtain ⟨cb, hcb⟩ : ∃ cb, cb = b.cells.toArray := ⟨_, rfl⟩
  rw [← hca, ← hcb] at ka kb HM ⊢
  clear K1 K2 hca hcb ha hb ra rb
  go_enter Tryd.func16, Tryd.ntmps16
  go_wp2_with fail
  go_ret
  exact ⟨rfl, HM.out⟩
set_option maxRecDepth 100000 in
theorem same_1 (a b : En) (w : World) (ha : a.Ln) (hb : b.Ln) (ra : Rd V8 w a.body.p a.body.cap a.body.d) (rb : Rd V8 w b.body.p b.body.cap b.body.d) (hK : (a.kind == b.kind) = true) (hS : (a.snd == b.snd) = false) : Calls Tryd.prog 16 #[.agg a.cells.toArray, .agg b.cells.toArray] w fun e w' => e = .returned (.bool false) ∧ Mod [] w w' := by
  have K1 := enBox ha (hp_old (o := .cells b.cells.toArray 35) (hp_new w (.cells a.cells.toArray 35) _ rfl))
  have K2 := enBox hb (hp_new (w.alloc (.cells a.cells.toArray 35)) (.cells b.cells.toArray 35) (w.heap.size + 1) (by simp))
  have ka : ((w.alloc (.cells a.cells.toArray 35)).alloc (.cells b.cells.toArray 35)).cell? ⟨w.heap.size, 0, none⟩ = some (.int .i64 a.kind) := K1.c0
  have kb : ((w.alloc (.cells a.cells.toArray 35)).alloc (.cells b.cells.toArray 35)).cell? ⟨w.heap.size + 1, 0, none⟩ = some (.int .i64 b.kind) := K2.c0
  have sa : (LoadO 30 (.pointer (some ⟨w.heap.size, 1, none⟩))).run Tryd.prog ((w.alloc (.cells a.cells.toArray 35)).alloc (.cells b.cells.toArray 35)) = .ok (.agg (a.snd.map V8).toArray) _ := K1.l1
  have sb : (LoadO 30 (.pointer (some ⟨w.heap.size + 1, 1, none⟩))).run Tryd.prog ((w.alloc (.cells a.cells.toArray 35)).alloc (.cells b.cells.toArray 35)) = .ok (.agg (b.snd.map V8).toArray) _ := K2.l1
  have es := fun w => eqAd w a.snd b.snd ha.s20 hb.s20
  simp only [hS] at es
  generalize (a.snd.map V8).toArray = sa at sa es
  generalize (b.snd.map V8).toArray = sb at sb es
  have HM := Lib.hid (((Mod.refl [] w).alloc (.cells a.cells.toArray 35)).alloc (.cells b.cells.toArray 35))
  obtain ⟨ca, hca⟩ : ∃ ca, ca = a.cells.toArray := ⟨_, rfl⟩
  obtain ⟨cb, hcb⟩ : ∃ cb, cb = b.cells.toArray := ⟨_, rfl⟩
  rw [← hca, ← hcb] at ka kb sa sb HM ⊢
  clear K1 K2 hca hcb ha hb ra rb hS
  go_enter Tryd.func16, Tryd.ntmps16
  go_wp2_with fail
  go_ret
  exact ⟨rfl, HM.out⟩
set_option maxRecDepth 100000 in
theorem same_2 (a b : En) (w : World) (ha : a.Ln) (hb : b.Ln) (ra : Rd V8 w a.body.p a.body.cap a.body.d) (rb : Rd V8 w b.body.p b.body.cap b.body.d) (hK : (a.kind == b.kind) = true) (hS : (a.snd == b.snd) = true) (hT : (a.time == b.time) = false) : Calls Tryd.prog 16 #[.agg a.cells.toArray, .agg b.cells.toArray] w fun e w' => e = .returned (.bool false) ∧ Mod [] w w' := by
  have K1 := enBox ha (hp_old (o := .cells b.cells.toArray 35) (hp_new w (.cells a.cells.toArray 35) _ rfl))
  have K2 := enBox hb (hp_new (w.alloc (.cells a.cells.toArray 35)) (.cells b.cells.toArray 35) (w.heap.size + 1) (by simp))
  have ka : ((w.alloc (.cells a.cells.toArray 35)).alloc (.cells b.cells.toArray 35)).cell? ⟨w.heap.size, 0, none⟩ = some (.int .i64 a.kind) := K1.c0
  have kb : ((w.alloc (.cells a.cells.toArray 35)).alloc (.cells b.cells.toArray 35)).cell? ⟨w.heap.size + 1, 0, none⟩ = some (.int .i64 b.kind) := K2.c0
  have sa : (LoadO 30 (.pointer (some ⟨w.heap.size, 1, none⟩))).run Tryd.prog ((w.alloc (.cells a.cells.toArray 35)).alloc (.cells b.cells.toArray 35)) = .ok (.agg (a.snd.map V8).toArray) _ := K1.l1
  have sb : (LoadO 30 (.pointer (some ⟨w.heap.size + 1, 1, none⟩))).run Tryd.prog ((w.alloc (.cells a.cells.toArray 35)).alloc (.cells b.cells.toArray 35)) = .ok (.agg (b.snd.map V8).toArray) _ := K2.l1
  have es := fun w => eqAd w a.snd b.snd ha.s20 hb.s20
  simp only [hS] at es
  generalize (a.snd.map V8).toArray = sa at sa es
  generalize (b.snd.map V8).toArray = sb at sb es
  have ta : ((w.alloc (.cells a.cells.toArray 35)).alloc (.cells b.cells.toArray 35)).cell? ⟨w.heap.size, 21, none⟩ = some (.int .i64 a.time) := K1.c21
  have tb : ((w.alloc (.cells a.cells.toArray 35)).alloc (.cells b.cells.toArray 35)).cell? ⟨w.heap.size + 1, 21, none⟩ = some (.int .i64 b.time) := K2.c21
  have HM := Lib.hid (((Mod.refl [] w).alloc (.cells a.cells.toArray 35)).alloc (.cells b.cells.toArray 35))
  obtain ⟨ca, hca⟩ : ∃ ca, ca = a.cells.toArray := ⟨_, rfl⟩
  obtain ⟨cb, hcb⟩ : ∃ cb, cb = b.cells.toArray := ⟨_, rfl⟩
  rw [← hca, ← hcb] at ka kb sa sb ta tb HM ⊢
  clear K1 K2 hca hcb ha hb ra rb hS
  go_enter Tryd.func16, Tryd.ntmps16
  go_wp2_with fail
  go_ret
  exact ⟨rfl, HM.out⟩
set_option maxRecDepth 100000 in
theorem same_3 (a b : En) (w : World) (ha : a.Ln) (hb : b.Ln) (ra : Rd V8 w a.body.p a.body.cap a.body.d) (rb : Rd V8 w b.body.p b.body.cap b.body.d) (hK : (a.kind == b.kind) = true) (hS : (a.snd == b.snd) = true) (hT : (a.time == b.time) = true) (hO : (a.tok == b.tok) = false) : Calls Tryd.prog 16 #[.agg a.cells.toArray, .agg b.cells.toArray] w fun e w' => e = .returned (.bool false) ∧ Mod [] w w' := by
  have K1 := enBox ha (hp_old (o := .cells b.cells.toArray 35) (hp_new w (.cells a.cells.toArray 35) _ rfl))
  have K2 := enBox hb (hp_new (w.alloc (.cells a.cells.toArray 35)) (.cells b.cells.toArray 35) (w.heap.size + 1) (by simp))
  have ka : ((w.alloc (.cells a.cells.toArray 35)).alloc (.cells b.cells.toArray 35)).cell? ⟨w.heap.size, 0, none⟩ = some (.int .i64 a.kind) := K1.c0
  have kb : ((w.alloc (.cells a.cells.toArray 35)).alloc (.cells b.cells.toArray 35)).cell? ⟨w.heap.size + 1, 0, none⟩ = some (.int .i64 b.kind) := K2.c0
  have sa : (LoadO 30 (.pointer (some ⟨w.heap.size, 1, none⟩))).run Tryd.prog ((w.alloc (.cells a.cells.toArray 35)).alloc (.cells b.cells.toArray 35)) = .ok (.agg (a.snd.map V8).toArray) _ := K1.l1
  have sb : (LoadO 30 (.pointer (some ⟨w.heap.size + 1, 1, none⟩))).run Tryd.prog ((w.alloc (.cells a.cells.toArray 35)).alloc (.cells b.cells.toArray 35)) = .ok (.agg (b.snd.map V8).toArray) _ := K2.l1
  have es := fun w => eqAd w a.snd b.snd ha.s20 hb.s20
  simp only [hS] at es
  generalize (a.snd.map V8).toArray = sa at sa es
  generalize (b.snd.map V8).toArray = sb at sb es
  have ta : ((w.alloc (.cells a.cells.toArray 35)).alloc (.cells b.cells.toArray 35)).cell? ⟨w.heap.size, 21, none⟩ = some (.int .i64 a.time) := K1.c21
  have tb : ((w.alloc (.cells a.cells.toArray 35)).alloc (.cells b.cells.toArray 35)).cell? ⟨w.heap.size + 1, 21, none⟩ = some (.int .i64 b.time) := K2.c21
  have oa : ((w.alloc (.cells a.cells.toArray 35)).alloc (.cells b.cells.toArray 35)).cell? ⟨w.heap.size, 22, none⟩ = some (.int .i64 a.tok) := K1.c22
  have ob : ((w.alloc (.cells a.cells.toArray 35)).alloc (.cells b.cells.toArray 35)).cell? ⟨w.heap.size + 1, 22, none⟩ = some (.int .i64 b.tok) := K2.c22
  have HM := Lib.hid (((Mod.refl [] w).alloc (.cells a.cells.toArray 35)).alloc (.cells b.cells.toArray 35))
  obtain ⟨ca, hca⟩ : ∃ ca, ca = a.cells.toArray := ⟨_, rfl⟩
  obtain ⟨cb, hcb⟩ : ∃ cb, cb = b.cells.toArray := ⟨_, rfl⟩
  rw [← hca, ← hcb] at ka kb sa sb ta tb oa ob HM ⊢
  clear K1 K2 hca hcb ha hb ra rb hS
  go_enter Tryd.func16, Tryd.ntmps16
  go_wp2_with fail
  go_ret
  exact ⟨rfl, HM.out⟩
set_option maxRecDepth 100000 in
theorem same_4 (a b : En) (w : World) (ha : a.Ln) (hb : b.Ln) (ra : Rd V8 w a.body.p a.body.cap a.body.d) (rb : Rd V8 w b.body.p b.body.cap b.body.d) (hK : (a.kind == b.kind) = true) (hS : (a.snd == b.snd) = true) (hT : (a.time == b.time) = true) (hO : (a.tok == b.tok) = true) (hD : (a.to == b.to) = false) : Calls Tryd.prog 16 #[.agg a.cells.toArray, .agg b.cells.toArray] w fun e w' => e = .returned (.bool false) ∧ Mod [] w w' := by
  have K1 := enBox ha (hp_old (o := .cells b.cells.toArray 35) (hp_new w (.cells a.cells.toArray 35) _ rfl))
  have K2 := enBox hb (hp_new (w.alloc (.cells a.cells.toArray 35)) (.cells b.cells.toArray 35) (w.heap.size + 1) (by simp))
  have ka : ((w.alloc (.cells a.cells.toArray 35)).alloc (.cells b.cells.toArray 35)).cell? ⟨w.heap.size, 0, none⟩ = some (.int .i64 a.kind) := K1.c0
  have kb : ((w.alloc (.cells a.cells.toArray 35)).alloc (.cells b.cells.toArray 35)).cell? ⟨w.heap.size + 1, 0, none⟩ = some (.int .i64 b.kind) := K2.c0
  have sa : (LoadO 30 (.pointer (some ⟨w.heap.size, 1, none⟩))).run Tryd.prog ((w.alloc (.cells a.cells.toArray 35)).alloc (.cells b.cells.toArray 35)) = .ok (.agg (a.snd.map V8).toArray) _ := K1.l1
  have sb : (LoadO 30 (.pointer (some ⟨w.heap.size + 1, 1, none⟩))).run Tryd.prog ((w.alloc (.cells a.cells.toArray 35)).alloc (.cells b.cells.toArray 35)) = .ok (.agg (b.snd.map V8).toArray) _ := K2.l1
  have es := fun w => eqAd w a.snd b.snd ha.s20 hb.s20
  simp only [hS] at es
  generalize (a.snd.map V8).toArray = sa at sa es
  generalize (b.snd.map V8).toArray = sb at sb es
  have ta : ((w.alloc (.cells a.cells.toArray 35)).alloc (.cells b.cells.toArray 35)).cell? ⟨w.heap.size, 21, none⟩ = some (.int .i64 a.time) := K1.c21
  have tb : ((w.alloc (.cells a.cells.toArray 35)).alloc (.cells b.cells.toArray 35)).cell? ⟨w.heap.size + 1, 21, none⟩ = some (.int .i64 b.time) := K2.c21
  have oa : ((w.alloc (.cells a.cells.toArray 35)).alloc (.cells b.cells.toArray 35)).cell? ⟨w.heap.size, 22, none⟩ = some (.int .i64 a.tok) := K1.c22
  have ob : ((w.alloc (.cells a.cells.toArray 35)).alloc (.cells b.cells.toArray 35)).cell? ⟨w.heap.size + 1, 22, none⟩ = some (.int .i64 b.tok) := K2.c22
  have da : (LoadO 30 (.pointer (some ⟨w.heap.size, 23, none⟩))).run Tryd.prog ((w.alloc (.cells a.cells.toArray 35)).alloc (.cells b.cells.toArray 35)) = .ok (.agg (a.to.map V8).toArray) _ := K1.l23
  have db : (LoadO 30 (.pointer (some ⟨w.heap.size + 1, 23, none⟩))).run Tryd.prog ((w.alloc (.cells a.cells.toArray 35)).alloc (.cells b.cells.toArray 35)) = .ok (.agg (b.to.map V8).toArray) _ := K2.l23
  have ed := fun w => eqAd w a.to b.to ha.t20 hb.t20
  simp only [hD] at ed
  generalize (a.to.map V8).toArray = da at da ed
  generalize (b.to.map V8).toArray = db at db ed
  have HM := Lib.hid (((Mod.refl [] w).alloc (.cells a.cells.toArray 35)).alloc (.cells b.cells.toArray 35))
  obtain ⟨ca, hca⟩ : ∃ ca, ca = a.cells.toArray := ⟨_, rfl⟩
  obtain ⟨cb, hcb⟩ : ∃ cb, cb = b.cells.toArray := ⟨_, rfl⟩
  rw [← hca, ← hcb] at ka kb sa sb ta tb oa ob da db HM ⊢
  clear K1 K2 hca hcb ha hb ra rb hS hD
  go_enter Tryd.func16, Tryd.ntmps16
  go_wp2_with fail
  go_ret
  exact ⟨rfl, HM.out⟩
set_option maxRecDepth 100000 in
theorem same_5 (a b : En) (w : World) (ha : a.Ln) (hb : b.Ln) (ra : Rd V8 w a.body.p a.body.cap a.body.d) (rb : Rd V8 w b.body.p b.body.cap b.body.d) (hK : (a.kind == b.kind) = true) (hS : (a.snd == b.snd) = true) (hT : (a.time == b.time) = true) (hO : (a.tok == b.tok) = true) (hD : (a.to == b.to) = true) (hA : (a.amt == b.amt) = false) : Calls Tryd.prog 16 #[.agg a.cells.toArray, .agg b.cells.toArray] w fun e w' => e = .returned (.bool false) ∧ Mod [] w w' := by
  have K1 := enBox ha (hp_old (o := .cells b.cells.toArray 35) (hp_new w (.cells a.cells.toArray 35) _ rfl))
  have K2 := enBox hb (hp_new (w.alloc (.cells a.cells.toArray 35)) (.cells b.cells.toArray 35) (w.heap.size + 1) (by simp))
  have ka : ((w.alloc (.cells a.cells.toArray 35)).alloc (.cells b.cells.toArray 35)).cell? ⟨w.heap.size, 0, none⟩ = some (.int .i64 a.kind) := K1.c0
  have kb : ((w.alloc (.cells a.cells.toArray 35)).alloc (.cells b.cells.toArray 35)).cell? ⟨w.heap.size + 1, 0, none⟩ = some (.int .i64 b.kind) := K2.c0
  have sa : (LoadO 30 (.pointer (some ⟨w.heap.size, 1, none⟩))).run Tryd.prog ((w.alloc (.cells a.cells.toArray 35)).alloc (.cells b.cells.toArray 35)) = .ok (.agg (a.snd.map V8).toArray) _ := K1.l1
  have sb : (LoadO 30 (.pointer (some ⟨w.heap.size + 1, 1, none⟩))).run Tryd.prog ((w.alloc (.cells a.cells.toArray 35)).alloc (.cells b.cells.toArray 35)) = .ok (.agg (b.snd.map V8).toArray) _ := K2.l1
  have es := fun w => eqAd w a.snd b.snd ha.s20 hb.s20
  simp only [hS] at es
  generalize (a.snd.map V8).toArray = sa at sa es
  generalize (b.snd.map V8).toArray = sb at sb es
  have ta : ((w.alloc (.cells a.cells.toArray 35)).alloc (.cells b.cells.toArray 35)).cell? ⟨w.heap.size, 21, none⟩ = some (.int .i64 a.time) := K1.c21
  have tb : ((w.alloc (.cells a.cells.toArray 35)).alloc (.cells b.cells.toArray 35)).cell? ⟨w.heap.size + 1, 21, none⟩ = some (.int .i64 b.time) := K2.c21
  have oa : ((w.alloc (.cells a.cells.toArray 35)).alloc (.cells b.cells.toArray 35)).cell? ⟨w.heap.size, 22, none⟩ = some (.int .i64 a.tok) := K1.c22
  have ob : ((w.alloc (.cells a.cells.toArray 35)).alloc (.cells b.cells.toArray 35)).cell? ⟨w.heap.size + 1, 22, none⟩ = some (.int .i64 b.tok) := K2.c22
  have da : (LoadO 30 (.pointer (some ⟨w.heap.size, 23, none⟩))).run Tryd.prog ((w.alloc (.cells a.cells.toArray 35)).alloc (.cells b.cells.toArray 35)) = .ok (.agg (a.to.map V8).toArray) _ := K1.l23
  have db : (LoadO 30 (.pointer (some ⟨w.heap.size + 1, 23, none⟩))).run Tryd.prog ((w.alloc (.cells a.cells.toArray 35)).alloc (.cells b.cells.toArray 35)) = .ok (.agg (b.to.map V8).toArray) _ := K2.l23
  have ed := fun w => eqAd w a.to b.to ha.t20 hb.t20
  simp only [hD] at ed
  generalize (a.to.map V8).toArray = da at da ed
  generalize (b.to.map V8).toArray = db at db ed
  have ma : (LoadO 33 (.pointer (some ⟨w.heap.size, 43, none⟩))).run Tryd.prog ((w.alloc (.cells a.cells.toArray 35)).alloc (.cells b.cells.toArray 35)) = .ok (.agg (a.amt.map V64).toArray) _ := K1.l43
  have mb : (LoadO 33 (.pointer (some ⟨w.heap.size + 1, 43, none⟩))).run Tryd.prog ((w.alloc (.cells a.cells.toArray 35)).alloc (.cells b.cells.toArray 35)) = .ok (.agg (b.amt.map V64).toArray) _ := K2.l43
  have em : ∀ w, (binOp .eql 33 (.agg (a.amt.map V64).toArray) (.agg (b.amt.map V64).toArray)).run Tryd.prog w = .ok (.bool (a.amt == b.amt)) w := fun w => eqWide w ⟨a.amt, ha.a4⟩ ⟨b.amt, hb.a4⟩
  simp only [hA] at em
  generalize (a.amt.map V64).toArray = ma at ma em
  generalize (b.amt.map V64).toArray = mb at mb em
  have HM := Lib.hid (((Mod.refl [] w).alloc (.cells a.cells.toArray 35)).alloc (.cells b.cells.toArray 35))
  obtain ⟨ca, hca⟩ : ∃ ca, ca = a.cells.toArray := ⟨_, rfl⟩
  obtain ⟨cb, hcb⟩ : ∃ cb, cb = b.cells.toArray := ⟨_, rfl⟩
  rw [← hca, ← hcb] at ka kb sa sb ta tb oa ob da db ma mb HM ⊢
  clear K1 K2 hca hcb ha hb ra rb hS hD hA
  go_enter Tryd.func16, Tryd.ntmps16
  go_wp2_with fail
  go_ret
  exact ⟨rfl, HM.out⟩
set_option maxRecDepth 100000 in
theorem same_6 (a b : En) (w : World) (ha : a.Ln) (hb : b.Ln) (ra : Rd V8 w a.body.p a.body.cap a.body.d) (rb : Rd V8 w b.body.p b.body.cap b.body.d) (hK : (a.kind == b.kind) = true) (hS : (a.snd == b.snd) = true) (hT : (a.time == b.time) = true) (hO : (a.tok == b.tok) = true) (hD : (a.to == b.to) = true) (hA : (a.amt == b.amt) = true) (hG : (a.gas == b.gas) = false) : Calls Tryd.prog 16 #[.agg a.cells.toArray, .agg b.cells.toArray] w fun e w' => e = .returned (.bool false) ∧ Mod [] w w' := by
  have K1 := enBox ha (hp_old (o := .cells b.cells.toArray 35) (hp_new w (.cells a.cells.toArray 35) _ rfl))
  have K2 := enBox hb (hp_new (w.alloc (.cells a.cells.toArray 35)) (.cells b.cells.toArray 35) (w.heap.size + 1) (by simp))
  have ka : ((w.alloc (.cells a.cells.toArray 35)).alloc (.cells b.cells.toArray 35)).cell? ⟨w.heap.size, 0, none⟩ = some (.int .i64 a.kind) := K1.c0
  have kb : ((w.alloc (.cells a.cells.toArray 35)).alloc (.cells b.cells.toArray 35)).cell? ⟨w.heap.size + 1, 0, none⟩ = some (.int .i64 b.kind) := K2.c0
  have sa : (LoadO 30 (.pointer (some ⟨w.heap.size, 1, none⟩))).run Tryd.prog ((w.alloc (.cells a.cells.toArray 35)).alloc (.cells b.cells.toArray 35)) = .ok (.agg (a.snd.map V8).toArray) _ := K1.l1
  have sb : (LoadO 30 (.pointer (some ⟨w.heap.size + 1, 1, none⟩))).run Tryd.prog ((w.alloc (.cells a.cells.toArray 35)).alloc (.cells b.cells.toArray 35)) = .ok (.agg (b.snd.map V8).toArray) _ := K2.l1
  have es := fun w => eqAd w a.snd b.snd ha.s20 hb.s20
  simp only [hS] at es
  generalize (a.snd.map V8).toArray = sa at sa es
  generalize (b.snd.map V8).toArray = sb at sb es
  have ta : ((w.alloc (.cells a.cells.toArray 35)).alloc (.cells b.cells.toArray 35)).cell? ⟨w.heap.size, 21, none⟩ = some (.int .i64 a.time) := K1.c21
  have tb : ((w.alloc (.cells a.cells.toArray 35)).alloc (.cells b.cells.toArray 35)).cell? ⟨w.heap.size + 1, 21, none⟩ = some (.int .i64 b.time) := K2.c21
  have oa : ((w.alloc (.cells a.cells.toArray 35)).alloc (.cells b.cells.toArray 35)).cell? ⟨w.heap.size, 22, none⟩ = some (.int .i64 a.tok) := K1.c22
  have ob : ((w.alloc (.cells a.cells.toArray 35)).alloc (.cells b.cells.toArray 35)).cell? ⟨w.heap.size + 1, 22, none⟩ = some (.int .i64 b.tok) := K2.c22
  have da : (LoadO 30 (.pointer (some ⟨w.heap.size, 23, none⟩))).run Tryd.prog ((w.alloc (.cells a.cells.toArray 35)).alloc (.cells b.cells.toArray 35)) = .ok (.agg (a.to.map V8).toArray) _ := K1.l23
  have db : (LoadO 30 (.pointer (some ⟨w.heap.size + 1, 23, none⟩))).run Tryd.prog ((w.alloc (.cells a.cells.toArray 35)).alloc (.cells b.cells.toArray 35)) = .ok (.agg (b.to.map V8).toArray) _ := K2.l23
  have ed := fun w => eqAd w a.to b.to ha.t20 hb.t20
  simp only [hD] at ed
  generalize (a.to.map V8).toArray = da at da ed
  generalize (b.to.map V8).toArray = db at db ed
  have ma : (LoadO 33 (.pointer (some ⟨w.heap.size, 43, none⟩))).run Tryd.prog ((w.alloc (.cells a.cells.toArray 35)).alloc (.cells b.cells.toArray 35)) = .ok (.agg (a.amt.map V64).toArray) _ := K1.l43
  have mb : (LoadO 33 (.pointer (some ⟨w.heap.size + 1, 43, none⟩))).run Tryd.prog ((w.alloc (.cells a.cells.toArray 35)).alloc (.cells b.cells.toArray 35)) = .ok (.agg (b.amt.map V64).toArray) _ := K2.l43
  have em : ∀ w, (binOp .eql 33 (.agg (a.amt.map V64).toArray) (.agg (b.amt.map V64).toArray)).run Tryd.prog w = .ok (.bool (a.amt == b.amt)) w := fun w => eqWide w ⟨a.amt, ha.a4⟩ ⟨b.amt, hb.a4⟩
  simp only [hA] at em
  generalize (a.amt.map V64).toArray = ma at ma em
  generalize (b.amt.map V64).toArray = mb at mb em
  have ga : ((w.alloc (.cells a.cells.toArray 35)).alloc (.cells b.cells.toArray 35)).cell? ⟨w.heap.size, 47, none⟩ = some (.int .i64 a.gas) := K1.c47
  have gb : ((w.alloc (.cells a.cells.toArray 35)).alloc (.cells b.cells.toArray 35)).cell? ⟨w.heap.size + 1, 47, none⟩ = some (.int .i64 b.gas) := K2.c47
  have HM := Lib.hid (((Mod.refl [] w).alloc (.cells a.cells.toArray 35)).alloc (.cells b.cells.toArray 35))
  obtain ⟨ca, hca⟩ : ∃ ca, ca = a.cells.toArray := ⟨_, rfl⟩
  obtain ⟨cb, hcb⟩ : ∃ cb, cb = b.cells.toArray := ⟨_, rfl⟩
  rw [← hca, ← hcb] at ka kb sa sb ta tb oa ob da db ma mb ga gb HM ⊢
  clear K1 K2 hca hcb ha hb ra rb hS hD hA
  go_enter Tryd.func16, Tryd.ntmps16
  go_wp2_with fail
  go_ret
  exact ⟨rfl, HM.out⟩
set_option maxRecDepth 100000 in
theorem same_7 (a b : En) (w : World) (ha : a.Ln) (hb : b.Ln) (ra : Rd V8 w a.body.p a.body.cap a.body.d) (rb : Rd V8 w b.body.p b.body.cap b.body.d) (hK : (a.kind == b.kind) = true) (hS : (a.snd == b.snd) = true) (hT : (a.time == b.time) = true) (hO : (a.tok == b.tok) = true) (hD : (a.to == b.to) = true) (hA : (a.amt == b.amt) = true) (hG : (a.gas == b.gas) = true) (hB : (a.body.d == b.body.d) = false) : Calls Tryd.prog 16 #[.agg a.cells.toArray, .agg b.cells.toArray] w fun e w' => e = .returned (.bool false) ∧ Mod [] w w' := by
  have K1 := enBox ha (hp_old (o := .cells b.cells.toArray 35) (hp_new w (.cells a.cells.toArray 35) _ rfl))
  have K2 := enBox hb (hp_new (w.alloc (.cells a.cells.toArray 35)) (.cells b.cells.toArray 35) (w.heap.size + 1) (by simp))
  have ka : ((w.alloc (.cells a.cells.toArray 35)).alloc (.cells b.cells.toArray 35)).cell? ⟨w.heap.size, 0, none⟩ = some (.int .i64 a.kind) := K1.c0
  have kb : ((w.alloc (.cells a.cells.toArray 35)).alloc (.cells b.cells.toArray 35)).cell? ⟨w.heap.size + 1, 0, none⟩ = some (.int .i64 b.kind) := K2.c0
  have sa : (LoadO 30 (.pointer (some ⟨w.heap.size, 1, none⟩))).run Tryd.prog ((w.alloc (.cells a.cells.toArray 35)).alloc (.cells b.cells.toArray 35)) = .ok (.agg (a.snd.map V8).toArray) _ := K1.l1
  have sb : (LoadO 30 (.pointer (some ⟨w.heap.size + 1, 1, none⟩))).run Tryd.prog ((w.alloc (.cells a.cells.toArray 35)).alloc (.cells b.cells.toArray 35)) = .ok (.agg (b.snd.map V8).toArray) _ := K2.l1
  have es := fun w => eqAd w a.snd b.snd ha.s20 hb.s20
  simp only [hS] at es
  generalize (a.snd.map V8).toArray = sa at sa es
  generalize (b.snd.map V8).toArray = sb at sb es
  have ta : ((w.alloc (.cells a.cells.toArray 35)).alloc (.cells b.cells.toArray 35)).cell? ⟨w.heap.size, 21, none⟩ = some (.int .i64 a.time) := K1.c21
  have tb : ((w.alloc (.cells a.cells.toArray 35)).alloc (.cells b.cells.toArray 35)).cell? ⟨w.heap.size + 1, 21, none⟩ = some (.int .i64 b.time) := K2.c21
  have oa : ((w.alloc (.cells a.cells.toArray 35)).alloc (.cells b.cells.toArray 35)).cell? ⟨w.heap.size, 22, none⟩ = some (.int .i64 a.tok) := K1.c22
  have ob : ((w.alloc (.cells a.cells.toArray 35)).alloc (.cells b.cells.toArray 35)).cell? ⟨w.heap.size + 1, 22, none⟩ = some (.int .i64 b.tok) := K2.c22
  have da : (LoadO 30 (.pointer (some ⟨w.heap.size, 23, none⟩))).run Tryd.prog ((w.alloc (.cells a.cells.toArray 35)).alloc (.cells b.cells.toArray 35)) = .ok (.agg (a.to.map V8).toArray) _ := K1.l23
  have db : (LoadO 30 (.pointer (some ⟨w.heap.size + 1, 23, none⟩))).run Tryd.prog ((w.alloc (.cells a.cells.toArray 35)).alloc (.cells b.cells.toArray 35)) = .ok (.agg (b.to.map V8).toArray) _ := K2.l23
  have ed := fun w => eqAd w a.to b.to ha.t20 hb.t20
  simp only [hD] at ed
  generalize (a.to.map V8).toArray = da at da ed
  generalize (b.to.map V8).toArray = db at db ed
  have ma : (LoadO 33 (.pointer (some ⟨w.heap.size, 43, none⟩))).run Tryd.prog ((w.alloc (.cells a.cells.toArray 35)).alloc (.cells b.cells.toArray 35)) = .ok (.agg (a.amt.map V64).toArray) _ := K1.l43
  have mb : (LoadO 33 (.pointer (some ⟨w.heap.size + 1, 43, none⟩))).run Tryd.prog ((w.alloc (.cells a.cells.toArray 35)).alloc (.cells b.cells.toArray 35)) = .ok (.agg (b.amt.map V64).toArray) _ := K2.l43
  have em : ∀ w, (binOp .eql 33 (.agg (a.amt.map V64).toArray) (.agg (b.amt.map V64).toArray)).run Tryd.prog w = .ok (.bool (a.amt == b.amt)) w := fun w => eqWide w ⟨a.amt, ha.a4⟩ ⟨b.amt, hb.a4⟩
  simp only [hA] at em
  generalize (a.amt.map V64).toArray = ma at ma em
  generalize (b.amt.map V64).toArray = mb at mb em
  have ga : ((w.alloc (.cells a.cells.toArray 35)).alloc (.cells b.cells.toArray 35)).cell? ⟨w.heap.size, 47, none⟩ = some (.int .i64 a.gas) := K1.c47
  have gb : ((w.alloc (.cells a.cells.toArray 35)).alloc (.cells b.cells.toArray 35)).cell? ⟨w.heap.size + 1, 47, none⟩ = some (.int .i64 b.gas) := K2.c47
  have ba : ((w.alloc (.cells a.cells.toArray 35)).alloc (.cells b.cells.toArray 35)).cell? ⟨w.heap.size, 48, none⟩ = some (.slice a.body.p a.body.d.length a.body.cap) := K1.c48
  have bb : ((w.alloc (.cells a.cells.toArray 35)).alloc (.cells b.cells.toArray 35)).cell? ⟨w.heap.size + 1, 48, none⟩ = some (.slice b.body.p b.body.d.length b.body.cap) := K2.c48
  have ra2 := str_rd (ra.mod0 (((Mod.refl [] w).alloc (.cells a.cells.toArray 35)).alloc (.cells b.cells.toArray 35))) _ rfl
  have rb2 := str_rd (rb.mod0 (((Mod.refl [] w).alloc (.cells a.cells.toArray 35)).alloc (.cells b.cells.toArray 35))) _ rfl
  have HM := Lib.hid (((Mod.refl [] w).alloc (.cells a.cells.toArray 35)).alloc (.cells b.cells.toArray 35))
  obtain ⟨ca, hca⟩ : ∃ ca, ca = a.cells.toArray := ⟨_, rfl⟩
  obtain ⟨cb, hcb⟩ : ∃ cb, cb = b.cells.toArray := ⟨_, rfl⟩
  rw [← hca, ← hcb] at ka kb sa sb ta tb oa ob da db ma mb ga gb ba bb ra2 rb2 HM ⊢
  clear K1 K2 hca hcb ha hb ra rb hS hD hA
  go_enter Tryd.func16, Tryd.ntmps16
  go_wp2_with fail
  go_ret
  exact ⟨rfl, HM.out⟩
set_option maxRecDepth 100000 in
theorem same_ok (a b : En) (w : World) (ha : a.Ln) (hb : b.Ln) (ra : Rd V8 w a.body.p a.body.cap a.body.d) (rb : Rd V8 w b.body.p b.body.cap b.body.d) (hK : (a.kind == b.kind) = true) (hS : (a.snd == b.snd) = true) (hT : (a.time == b.time) = true) (hO : (a.tok == b.tok) = true) (hD : (a.to == b.to) = true) (hA : (a.amt == b.amt) = true) (hG : (a.gas == b.gas) = true) (hB : (a.body.d == b.body.d) = true) : Calls Tryd.prog 16 #[.agg a.cells.toArray, .agg b.cells.toArray] w fun e w' => e = .returned (.bool true) ∧ Mod [] w w' := by
  have K1 := enBox ha (hp_old (o := .cells b.cells.toArray 35) (hp_new w (.cells a.cells.toArray 35) _ rfl))
  have K2 := enBox hb (hp_new (w.alloc (.cells a.cells.toArray 35)) (.cells b.cells.toArray 35) (w.heap.size + 1) (by simp))
  have ka : ((w.alloc (.cells a.cells.toArray 35)).alloc (.cells b.cells.toArray 35)).cell? ⟨w.heap.size, 0, none⟩ = some (.int .i64 a.kind) := K1.c0
  have kb : ((w.alloc (.cells a.cells.toArray 35)).alloc (.cells b.cells.toArray 35)).cell? ⟨w.heap.size + 1, 0, none⟩ = some (.int .i64 b.kind) := K2.c0
  have sa : (LoadO 30 (.pointer (some ⟨w.heap.size, 1, none⟩))).run Tryd.prog ((w.alloc (.cells a.cells.toArray 35)).alloc (.cells b.cells.toArray 35)) = .ok (.agg (a.snd.map V8).toArray) _ := K1.l1
  have sb : (LoadO 30 (.pointer (some ⟨w.heap.size + 1, 1, none⟩))).run Tryd.prog ((w.alloc (.cells a.cells.toArray 35)).alloc (.cells b.cells.toArray 35)) = .ok (.agg (b.snd.map V8).toArray) _ := K2.l1
  have es := fun w => eqAd w a.snd b.snd ha.s20 hb.s20
  simp only [hS] at es
  generalize (a.snd.map V8).toArray = sa at sa es
  generalize (b.snd.map V8).toArray = sb at sb es
  have ta : ((w.alloc (.cells a.cells.toArray 35)).alloc (.cells b.cells.toArray 35)).cell? ⟨w.heap.size, 21, none⟩ = some (.int .i64 a.time) := K1.c21
  have tb : ((w.alloc (.cells a.cells.toArray 35)).alloc (.cells b.cells.toArray 35)).cell? ⟨w.heap.size + 1, 21, none⟩ = some (.int .i64 b.time) := K2.c21
  have oa : ((w.alloc (.cells a.cells.toArray 35)).alloc (.cells b.cells.toArray 35)).cell? ⟨w.heap.size, 22, none⟩ = some (.int .i64 a.tok) := K1.c22
  have ob : ((w.alloc (.cells a.cells.toArray 35)).alloc (.cells b.cells.toArray 35)).cell? ⟨w.heap.size + 1, 22, none⟩ = some (.int .i64 b.tok) := K2.c22
  have da : (LoadO 30 (.pointer (some ⟨w.heap.size, 23, none⟩))).run Tryd.prog ((w.alloc (.cells a.cells.toArray 35)).alloc (.cells b.cells.toArray 35)) = .ok (.agg (a.to.map V8).toArray) _ := K1.l23
  have db : (LoadO 30 (.pointer (some ⟨w.heap.size + 1, 23, none⟩))).run Tryd.prog ((w.alloc (.cells a.cells.toArray 35)).alloc (.cells b.cells.toArray 35)) = .ok (.agg (b.to.map V8).toArray) _ := K2.l23
  have ed := fun w => eqAd w a.to b.to ha.t20 hb.t20
  simp only [hD] at ed
  generalize (a.to.map V8).toArray = da at da ed
  generalize (b.to.map V8).toArray = db at db ed
  have ma : (LoadO 33 (.pointer (some ⟨w.heap.size, 43, none⟩))).run Tryd.prog ((w.alloc (.cells a.cells.toArray 35)).alloc (.cells b.cells.toArray 35)) = .ok (.agg (a.amt.map V64).toArray) _ := K1.l43
  have mb : (LoadO 33 (.pointer (some ⟨w.heap.size + 1, 43, none⟩))).run Tryd.prog ((w.alloc (.cells a.cells.toArray 35)).alloc (.cells b.cells.toArray 35)) = .ok (.agg (b.amt.map V64).toArray) _ := K2.l43
  have em : ∀ w, (binOp .eql 33 (.agg (a.amt.map V64).toArray) (.agg (b.amt.map V64).toArray)).run Tryd.prog w = .ok (.bool (a.amt == b.amt)) w := fun w => eqWide w ⟨a.amt, ha.a4⟩ ⟨b.amt, hb.a4⟩
  simp only [hA] at em
  generalize (a.amt.map V64).toArray = ma at ma em
  generalize (b.amt.map V64).toArray = mb at mb em
  have ga : ((w.alloc (.cells a.cells.toArray 35)).alloc (.cells b.cells.toArray 35)).cell? ⟨w.heap.size, 47, none⟩ = some (.int .i64 a.gas) := K1.c47
  have gb : ((w.alloc (.cells a.cells.toArray 35)).alloc (.cells b.cells.toArray 35)).cell? ⟨w.heap.size + 1, 47, none⟩ = some (.int .i64 b.gas) := K2.c47
  have ba : ((w.alloc (.cells a.cells.toArray 35)).alloc (.cells b.cells.toArray 35)).cell? ⟨w.heap.size, 48, none⟩ = some (.slice a.body.p a.body.d.length a.body.cap) := K1.c48
  have bb : ((w.alloc (.cells a.cells.toArray 35)).alloc (.cells b.cells.toArray 35)).cell? ⟨w.heap.size + 1, 48, none⟩ = some (.slice b.body.p b.body.d.length b.body.cap) := K2.c48
  have ra2 := str_rd (ra.mod0 (((Mod.refl [] w).alloc (.cells a.cells.toArray 35)).alloc (.cells b.cells.toArray 35))) _ rfl
  have rb2 := str_rd (rb.mod0 (((Mod.refl [] w).alloc (.cells a.cells.toArray 35)).alloc (.cells b.cells.toArray 35))) _ rfl
  have HM := Lib.hid (((Mod.refl [] w).alloc (.cells a.cells.toArray 35)).alloc (.cells b.cells.toArray 35))
  obtain ⟨ca, hca⟩ : ∃ ca, ca = a.cells.toArray := ⟨_, rfl⟩
  obtain ⟨cb, hcb⟩ : ∃ cb, cb = b.cells.toArray := ⟨_, rfl⟩
  rw [← hca, ← hcb] at ka kb sa sb ta tb oa ob da db ma mb ga gb ba bb ra2 rb2 HM ⊢
  clear K1 K2 hca hcb ha hb ra rb hS hD hA
  go_enter Tryd.func16, Tryd.ntmps16
  go_wp2_with fail
  go_ret
  exact ⟨rfl, HM.out⟩
theorem same_any (a b : En) (w : World) (ha : a.Ln) (hb : b.Ln) (ra : Rd V8 w a.body.p a.body.cap a.body.d) (rb : Rd V8 w b.body.p b.body.cap b.body.d) : Calls Tryd.prog 16 #[.agg a.cells.toArray, .agg b.cells.toArray] w fun e w' => e = .returned (.bool (sameE a b)) ∧ Mod [] w w' := by
  cases qK : (a.kind == b.kind)
  · have hc : sameE a b = false := by unfold sameE; rw [qK]; rfl
    rw [hc]; exact same_0 a b w ha hb ra rb qK
  · cases qS : (a.snd == b.snd)
    · have hc : sameE a b = false := by unfold sameE; rw [qK, qS]; rfl
      rw [hc]; exact same_1 a b w ha hb ra rb qK qS
    · cases qT : (a.time == b.time)
      · have hc : sameE a b = false := by unfold sameE; rw [qK, qS, qT]; rfl
        rw [hc]; exact same_2 a b w ha hb ra rb qK qS qT
      · cases qO : (a.tok == b.tok)
        · have hc : sameE a b = false := by unfold sameE; rw [qK, qS, qT, qO]; rfl
          rw [hc]; exact same_3 a b w ha hb ra rb qK qS qT qO
        · cases qD : (a.to == b.to)
          · have hc : sameE a b = false := by unfold sameE; rw [qK, qS, qT, qO, qD]; rfl
            rw [hc]; exact same_4 a b w ha hb ra rb qK qS qT qO qD
          · cases qA : (a.amt == b.amt)
            · have hc : sameE a b = false := by unfold sameE; rw [qK, qS, qT, qO, qD, qA]; rfl
              rw [hc]; exact same_5 a b w ha hb ra rb qK qS qT qO qD qA
            · cases qG : (a.gas == b.gas)
              · have hc : sameE a b = false := by unfold sameE; rw [qK, qS, qT, qO, qD, qA, qG]; rfl
                rw [hc]; exact same_6 a b w ha hb ra rb qK qS qT qO qD qA qG
              · cases qB : (a.body.d == b.body.d)
                · have hc : sameE a b = false := by unfold sameE; rw [qK, qS, qT, qO, qD, qA, qG, qB]; rfl
                  rw [hc]; exact same_7 a b w ha hb ra rb qK qS qT qO qD qA qG qB
                · have hc : sameE a b = true := by unfold sameE; rw [qK, qS, qT, qO, qD, qA, qG, qB]; rfl
                  rw [hc]; exact same_ok a b w ha hb ra rb qK qS qT qO qD qA qG qB
end Go.Proofs.YtmdgefiojapogaaDoor
