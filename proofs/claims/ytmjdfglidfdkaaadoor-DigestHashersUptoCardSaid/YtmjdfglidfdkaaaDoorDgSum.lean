/- Sum and Bits of the package. Conditions: as DgFns. -/
import Derived.Test.YtmjdfglidfdkaaaDoorDgFns
namespace Go.Proofs.YtmjdfglidfdkaaaDoor
open Go.RowKit
attribute [local go_sem high] one8 st8 cm8 b_and8 b_and8r b_and8l b_or8 b_or8r b_or8l b_xor8 b_xor8r b_xor8l b_andNot8 b_andNot8r b_andNot8l b_add8 b_add8r b_add8l b_sub8 b_sub8r b_sub8l b_mul8 b_mul8r b_mul8l b_eql8 b_eql8r b_eql8l b_neq8 b_neq8r b_neq8l b_lss8 b_lss8r b_lss8l b_leq8 b_leq8r b_leq8l b_gtr8 b_gtr8r b_gtr8l b_geq8 b_geq8r b_geq8l b_quo8r b_rem8r b_shl8r b_shr8r b_shl8l b_shr8l u_xor8 g_eql8 g_neq8 g_eql8' g_neq8' one32 st32 cm32 b_and32 b_and32r b_and32l b_or32 b_or32r b_or32l b_xor32 b_xor32r b_xor32l b_andNot32 b_andNot32r b_andNot32l b_add32 b_add32r b_add32l b_sub32 b_sub32r b_sub32l b_mul32 b_mul32r b_mul32l b_eql32 b_eql32r b_eql32l b_neq32 b_neq32r b_neq32l b_lss32 b_lss32r b_lss32l b_leq32 b_leq32r b_leq32l b_gtr32 b_gtr32r b_gtr32l b_geq32 b_geq32r b_geq32l b_quo32r b_rem32r b_shl32r b_shr32r b_shl32l b_shr32l u_xor32 g_eql32 g_neq32 g_eql32' g_neq32' one64 st64 cm64 b_and64 b_and64r b_and64l b_or64 b_or64r b_or64l b_xor64 b_xor64r b_xor64l b_andNot64 b_andNot64r b_andNot64l b_add64 b_add64r b_add64l b_sub64 b_sub64r b_sub64l b_mul64 b_mul64r b_mul64l b_eql64 b_eql64r b_eql64l b_neq64 b_neq64r b_neq64l b_lss64 b_lss64r b_lss64l b_leq64 b_leq64r b_leq64l b_gtr64 b_gtr64r b_gtr64l b_geq64 b_geq64r b_geq64l b_quo64r b_rem64r b_shl64r b_shr64r b_shl64l b_shr64l u_xor64 g_eql64 g_neq64 g_eql64' g_neq64' c_u8_u8 c_u8_u32 c_u8_u64 c_i_u8 c_u32_u8 c_u32_u32 c_u32_u64 c_i_u32 c_u64_u8 c_u64_u32 c_u64_u64 c_i_u64 c_u8_i c_u32_i
attribute [local go_sem ↓] ce8 ce32 ce64
attribute [local go_sem ↓] sliced_slp loadO62 loadO64 storeO62 storeO64 loadO26 storeO26 loadO66 storeO66
attribute [local irreducible] compress hst pad1 fin
theorem digest_sum (p : Option Addr) (cap : Nat) (d : List UInt8) (w : World) (hr : Rd V8 w p cap d) (ht : Tab w) (hg1 : 1 < w.heap.size) (hlen : d.length < 4611686018427387904) :
    Calls Tryd.prog 13 #[.slice p d.length cap] w fun e w' => e = .returned (dv (fin d 0 0)) ∧ Mod [] w w' := by
  have HP := fun (q : Option Addr) (w1 : World) (hq : Rd SlR.v w1 q 1 [⟨p, cap, d⟩]) (hm : Mod [] w w1) (hg : w.heap.size < w1.heap.size) =>
    parts_any q 1 [⟨p, cap, d⟩] w1 hq (by simpa using hr.mod0 hm) (Tab.mod hm ht (by simp)) (by omega) (by simp) (by simpa [total] using hlen)
  have HP := Lib.hid HP
  clear hr ht
  go_enter Tryd.func13, Tryd.ntmps13
  go_wp2_with fail
  refine (HP.out _ _ ?_ ?_ ?_).mono ?_
  · exact Rd.of_blk (hp_new _ _ _ (by simp)) (fun j v hv => by simpa [SlR.v] using hv) (by simp)
  · exact ((Mod.refl [] w).alloc _).alloc _
  · simp; omega
  rintro e w5 ⟨rfl, hm5⟩
  have hS := storeDv (fin (joined [⟨p, cap, d⟩]) 0 0) (fin_length _ _ _) (hm5.get0 (hp_old (hp_new _ _ _ rfl))) rfl
  have HRES := Lib.hid (hm5.get0 (hp_old (hp_new _ _ _ rfl)))
  go_wp2_with fail
  refine bodyPost_ret (results_dv rfl _ _ _ _ (fin_length _ _ _) _ rfl (hp_setRow HRES.out)) rfl ⟨?_, ((((Mod.refl [] w).alloc _).alloc _).trans0 hm5).setRow (.inr (Nat.le_refl _)) _⟩
  simp [joined]

theorem results_dv2 {fn : Func} {p u : Tmp} (h : fn.results = #[.cell p 26, .tmp u]) (tmps : Array Value) (w : World) (b : Nat) (d : List UInt8) (hd : d.length = 32) (fr : Nat × Nat)
    (hp : tmps.getD p undef = .pointer (some ⟨b, 0, none⟩)) (hg : w.heap[b]? = some (.cells (d.map V8).toArray 26 fr)) : (results fn tmps).run Tryd.prog w = .ok (.tuple #[dv d, tmps.getD u undef]) w := by
  have hp' : tmps[p]?.getD undef = .pointer (some ⟨b, 0, none⟩) := by simpa using hp
  have hrun := run_loadVar_row (P := Tryd.prog) w b _ 26 (d.map V8).toArray fr _ hg Tryd.underlying26 rfl (by simpa [hd] using info26)
  simp [results, h, hp', asAddr, hrun]; rfl
theorem built26 : Tryd.prog.built 26 [] = some ((zeros 32).map V8).toArray := by kernel_rfl
end Go.Proofs.YtmjdfglidfdkaaaDoor
