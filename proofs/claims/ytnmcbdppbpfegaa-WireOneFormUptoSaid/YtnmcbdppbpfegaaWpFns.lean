/- digest, address of wire's laws: of the first bytes. Condition: fewer than 2^46 bytes. -/
import Derived.Test.YtnmcbdppbpfegaaWlHelp
import Derived.Test.YtnmcbdppbpfegaaWrMore
namespace Go.Proofs.Ytnmcbdppbpfegaa
open Go.RowKit
attribute [local go_sem high] one8 st8 cm8 b_and8 b_and8r b_and8l b_or8 b_or8r b_or8l b_xor8 b_xor8r b_xor8l b_andNot8 b_andNot8r b_andNot8l b_add8 b_add8r b_add8l b_sub8 b_sub8r b_sub8l b_mul8 b_mul8r b_mul8l b_eql8 b_eql8r b_eql8l b_neq8 b_neq8r b_neq8l b_lss8 b_lss8r b_lss8l b_leq8 b_leq8r b_leq8l b_gtr8 b_gtr8r b_gtr8l b_geq8 b_geq8r b_geq8l b_quo8r b_rem8r b_shl8r b_shr8r b_shl8l b_shr8l u_xor8 g_eql8 g_neq8 g_eql8' g_neq8' one32 st32 cm32 b_and32 b_and32r b_and32l b_or32 b_or32r b_or32l b_xor32 b_xor32r b_xor32l b_andNot32 b_andNot32r b_andNot32l b_add32 b_add32r b_add32l b_sub32 b_sub32r b_sub32l b_mul32 b_mul32r b_mul32l b_eql32 b_eql32r b_eql32l b_neq32 b_neq32r b_neq32l b_lss32 b_lss32r b_lss32l b_leq32 b_leq32r b_leq32l b_gtr32 b_gtr32r b_gtr32l b_geq32 b_geq32r b_geq32l b_quo32r b_rem32r b_shl32r b_shr32r b_shl32l b_shr32l u_xor32 g_eql32 g_neq32 g_eql32' g_neq32' one64 st64 cm64 b_and64 b_and64r b_and64l b_or64 b_or64r b_or64l b_xor64 b_xor64r b_xor64l b_andNot64 b_andNot64r b_andNot64l b_add64 b_add64r b_add64l b_sub64 b_sub64r b_sub64l b_mul64 b_mul64r b_mul64l b_eql64 b_eql64r b_eql64l b_neq64 b_neq64r b_neq64l b_lss64 b_lss64r b_lss64l b_leq64 b_leq64r b_leq64l b_gtr64 b_gtr64r b_gtr64l b_geq64 b_geq64r b_geq64l b_quo64r b_rem64r b_shl64r b_shr64r b_shl64l b_shr64l u_xor64 g_eql64 g_neq64 g_eql64' g_neq64' c_u8_u8 c_u8_u32 c_u8_u64 c_i_u8 c_u32_u8 c_u32_u32 c_u32_u64 c_i_u32 c_u64_u8 c_u64_u32 c_u64_u64 c_i_u64 c_u8_i c_u32_i
attribute [local go_sem ↓] ce8 ce32 ce64
theorem loadODg (p : Value) : Instr.loadAt 88 p = LoadO 88 p := rfl
theorem storeODg (p v : Value) : Instr.storeAt 88 p v = StoreO 88 p v := rfl
theorem loadOAd (p : Value) : Instr.loadAt 92 p = LoadO 92 p := rfl
theorem storeOAd (p v : Value) : Instr.storeAt 92 p v = StoreO 92 p v := rfl
attribute [local go_sem ↓] sliced_slp loadODg storeODg loadOAd storeOAd
/-- The first k bytes, noughts behind them. -/
def firstN (k : Nat) (l : List UInt8) : List UInt8 := l.take k ++ zeros (k - l.length)
theorem firstN_length (k : Nat) (l : List UInt8) : (firstN k l).length = k := by simp [firstN, zeros_length]; omega
theorem first_copy (k : Nat) (l : List UInt8) : (zeros k).take 0 ++ (l.take k ++ (zeros k).drop (0 + min l.length k)) = firstN k l := by
  unfold firstN zeros
  rw [List.take_zero, List.nil_append, List.drop_replicate]
  congr 2
  omega
theorem info32 : (Try.prog.info? 88).map (·.size) = some 32 := by kernel_rfl
theorem info20 : (Try.prog.info? 92).map (·.size) = some 20 := by kernel_rfl
set_option maxRecDepth 100000 in
theorem digest_any (p : Option Addr) (cap : Nat) (l : List UInt8) (w : World) (hr : Rd V8 w p cap l) :
    Calls Try.prog 56 #[.slice p l.length cap] w fun e w' => e = .returned (.agg ((firstN 32 l).map V8).toArray) ∧ Mod [] w w' := by
  have HR := Lib.hid hr
  clear hr
  obtain ⟨W2, hW2⟩ : ∃ W, W = (w.alloc (.cells ((zeros 32).map V8).toArray 88)).alloc (.cells ((zeros 32).map V8).toArray 88) := ⟨_, rfl⟩
  have hb0 : W2.heap[w.heap.size]? = some (.cells ((zeros 32).map V8).toArray 88 (0, 0)) := by rw [hW2]; exact hp_old (hp_new w _ _ rfl)
  have hb1 : W2.heap[w.heap.size + 1]? = some (.cells ((zeros 32).map V8).toArray 88 (0, 0)) := by rw [hW2]; exact hp_new _ _ _ (by simp)
  have hm2 : Mod [] w W2 := by rw [hW2]; exact ((Mod.refl [] w).alloc _).alloc _
  have HW2 := Lib.hid hW2
  have HB0 := Lib.hid hb0
  have HB1 := Lib.hid hb1
  have HM2 := Lib.hid hm2
  clear hb0 hb1 hm2 hW2
  go_enter Try.func56, Try.ntmps56
  go_wp2_with (with_reducible refine froz_copy _ _ rfl ?_)
  unfold Froz
  refine Eq.mpr (congrArg (fun W => wpList _ _ _ _ _ W) (show _ = W2 from HW2.out.symm)) ?_
  refine wpList_copy8 rfl _ _ rfl (w.heap.size + 1) 0 32 32 p l.length cap l (zeros 32) rfl rfl HB1.out (HR.out.mod0 HM2.out) rfl (by simp [zeros_length]) ?_
  rw [first_copy]
  have hfl : ((firstN 32 l).map V8).toArray.size = 32 := by simp [firstN_length]
  obtain ⟨cs, hcs⟩ : ∃ cs, cs = ((firstN 32 l).map V8).toArray := ⟨_, rfl⟩
  have hone : cs.all (·.oneCell') = true := by rw [hcs]; simp [one8]
  rw [← hcs] at hfl ⊢
  obtain ⟨W3, hW3⟩ : ∃ W, W = W2.setRow (w.heap.size + 1) cs := ⟨_, rfl⟩
  have c1 : W3.heap[w.heap.size + 1]? = some (.cells cs 88 (0, 0)) := by rw [hW3]; exact hp_setRow HB1.out
  have c0 : W3.heap[w.heap.size]? = some (.cells ((zeros 32).map V8).toArray 88 (0, 0)) := by rw [hW3]; exact hp_setRow_ne HB0.out (by omega)
  have hm3 : Mod [] w W3 := by rw [hW3]; exact HM2.out.setRow (.inr (by simp)) _
  rw [← hW3]
  have hL := loadO_row (P := Try.prog) (ty := 88) c1 Try.underlying88 rfl (by rw [hfl]; exact info32)
  have hS := storeO_row (P := Try.prog) (ty := 88) (cells := cs) c0 (by simp [zeros_length, hfl]) (by rw [hfl]; exact info32) hone
  have HC0 := Lib.hid (hp_setRow (cs := cs) c0)
  have HM3 := Lib.hid (hm3.setRow (g := w.heap.size) (.inr (by simp)) cs)
  have HFL := Lib.hid hfl
  have HCS := Lib.hid hcs
  clear c0 c1 hm3 hW3 hcs hone hfl
  go_wp2_with fail
  exact bodyPost_ret (results_cell_row rfl _ _ w.heap.size _ cs (0, 0) _ rfl HC0.out Try.underlying88 rfl (by rw [HFL.out]; exact info32)) rfl ⟨by rw [HCS.out], HM3.out⟩
set_option maxRecDepth 100000 in
theorem address_any (p : Option Addr) (cap : Nat) (l : List UInt8) (w : World) (hr : Rd V8 w p cap l) :
    Calls Try.prog 59 #[.slice p l.length cap] w fun e w' => e = .returned (.agg ((firstN 20 l).map V8).toArray) ∧ Mod [] w w' := by
  have HR := Lib.hid hr
  clear hr
  obtain ⟨W2, hW2⟩ : ∃ W, W = (w.alloc (.cells ((zeros 20).map V8).toArray 92)).alloc (.cells ((zeros 20).map V8).toArray 92) := ⟨_, rfl⟩
  have hb0 : W2.heap[w.heap.size]? = some (.cells ((zeros 20).map V8).toArray 92 (0, 0)) := by rw [hW2]; exact hp_old (hp_new w _ _ rfl)
  have hb1 : W2.heap[w.heap.size + 1]? = some (.cells ((zeros 20).map V8).toArray 92 (0, 0)) := by rw [hW2]; exact hp_new _ _ _ (by simp)
  have hm2 : Mod [] w W2 := by rw [hW2]; exact ((Mod.refl [] w).alloc _).alloc _
  have HW2 := Lib.hid hW2
  have HB0 := Lib.hid hb0
  have HB1 := Lib.hid hb1
  have HM2 := Lib.hid hm2
  clear hb0 hb1 hm2 hW2
  go_enter Try.func59, Try.ntmps59
  go_wp2_with (with_reducible refine froz_copy _ _ rfl ?_)
  unfold Froz
  refine Eq.mpr (congrArg (fun W => wpList _ _ _ _ _ W) (show _ = W2 from HW2.out.symm)) ?_
  refine wpList_copy8 rfl _ _ rfl (w.heap.size + 1) 0 20 20 p l.length cap l (zeros 20) rfl rfl HB1.out (HR.out.mod0 HM2.out) rfl (by simp [zeros_length]) ?_
  rw [first_copy]
  have hfl : ((firstN 20 l).map V8).toArray.size = 20 := by simp [firstN_length]
  obtain ⟨cs, hcs⟩ : ∃ cs, cs = ((firstN 20 l).map V8).toArray := ⟨_, rfl⟩
  have hone : cs.all (·.oneCell') = true := by rw [hcs]; simp [one8]
  rw [← hcs] at hfl ⊢
  obtain ⟨W3, hW3⟩ : ∃ W, W = W2.setRow (w.heap.size + 1) cs := ⟨_, rfl⟩
  have c1 : W3.heap[w.heap.size + 1]? = some (.cells cs 92 (0, 0)) := by rw [hW3]; exact hp_setRow HB1.out
  have c0 : W3.heap[w.heap.size]? = some (.cells ((zeros 20).map V8).toArray 92 (0, 0)) := by rw [hW3]; exact hp_setRow_ne HB0.out (by omega)
  have hm3 : Mod [] w W3 := by rw [hW3]; exact HM2.out.setRow (.inr (by simp)) _
  rw [← hW3]
  have hL := loadO_row (P := Try.prog) (ty := 92) c1 Try.underlying92 rfl (by rw [hfl]; exact info20)
  have hS := storeO_row (P := Try.prog) (ty := 92) (cells := cs) c0 (by simp [zeros_length, hfl]) (by rw [hfl]; exact info20) hone
  have HC0 := Lib.hid (hp_setRow (cs := cs) c0)
  have HM3 := Lib.hid (hm3.setRow (g := w.heap.size) (.inr (by simp)) cs)
  have HFL := Lib.hid hfl
  have HCS := Lib.hid hcs
  clear c0 c1 hm3 hW3 hcs hone hfl
  go_wp2_with fail
  exact bodyPost_ret (results_cell_row rfl _ _ w.heap.size _ cs (0, 0) _ rfl HC0.out Try.underlying92 rfl (by rw [HFL.out]; exact info20)) rfl ⟨by rw [HCS.out], HM3.out⟩
end Go.Proofs.Ytnmcbdppbpfegaa
