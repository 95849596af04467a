/- Byte, Flag, Bytes, Wide, Digest, Address, Number of a broken reader: nothing is taken. Condition: at most 2^22 bytes. -/
import Derived.Test.YtnmcbdppbpfegaaRrCalls
import Derived.Test.YtnmcbdppbpfegaaWpForm
namespace Go.Proofs.Ytnmcbdppbpfegaa
open Go.RowKit
attribute [local go_sem high] one8 st8 cm8 b_and8 b_and8r b_and8l b_or8 b_or8r b_or8l b_xor8 b_xor8r b_xor8l b_andNot8 b_andNot8r b_andNot8l b_add8 b_add8r b_add8l b_sub8 b_sub8r b_sub8l b_mul8 b_mul8r b_mul8l b_eql8 b_eql8r b_eql8l b_neq8 b_neq8r b_neq8l b_lss8 b_lss8r b_lss8l b_leq8 b_leq8r b_leq8l b_gtr8 b_gtr8r b_gtr8l b_geq8 b_geq8r b_geq8l b_quo8r b_rem8r b_shl8r b_shr8r b_shl8l b_shr8l u_xor8 g_eql8 g_neq8 g_eql8' g_neq8' one32 st32 cm32 b_and32 b_and32r b_and32l b_or32 b_or32r b_or32l b_xor32 b_xor32r b_xor32l b_andNot32 b_andNot32r b_andNot32l b_add32 b_add32r b_add32l b_sub32 b_sub32r b_sub32l b_mul32 b_mul32r b_mul32l b_eql32 b_eql32r b_eql32l b_neq32 b_neq32r b_neq32l b_lss32 b_lss32r b_lss32l b_leq32 b_leq32r b_leq32l b_gtr32 b_gtr32r b_gtr32l b_geq32 b_geq32r b_geq32l b_quo32r b_rem32r b_shl32r b_shr32r b_shl32l b_shr32l u_xor32 g_eql32 g_neq32 g_eql32' g_neq32' one64 st64 cm64 b_and64 b_and64r b_and64l b_or64 b_or64r b_or64l b_xor64 b_xor64r b_xor64l b_andNot64 b_andNot64r b_andNot64l b_add64 b_add64r b_add64l b_sub64 b_sub64r b_sub64l b_mul64 b_mul64r b_mul64l b_eql64 b_eql64r b_eql64l b_neq64 b_neq64r b_neq64l b_lss64 b_lss64r b_lss64l b_leq64 b_leq64r b_leq64l b_gtr64 b_gtr64r b_gtr64l b_geq64 b_geq64r b_geq64l b_quo64r b_rem64r b_shl64r b_shr64r b_shl64l b_shr64l u_xor64 g_eql64 g_neq64 g_eql64' g_neq64' c_u8_u8 c_u8_u32 c_u8_u64 c_i_u8 c_u32_u8 c_u32_u32 c_u32_u64 c_i_u32 c_u64_u8 c_u64_u32 c_u64_u64 c_i_u64 c_u8_i c_u32_i
attribute [local go_sem ↓] ce8 ce32 ce64
attribute [local go_sem ↓] sliced_slp loadODg storeODg loadOAd storeOAd loadOWd storeOWd
theorem results_u8 {fn : Func} {p : Tmp} (h : fn.results = #[.cell p 5]) (tmps : Array Value) (w : World) (b : Nat) (n : UInt8) (hp : tmps.getD p undef = .pointer (some ⟨b, 0, none⟩)) (hg : w.cell? ⟨b, 0, none⟩ = some (V8 n)) : (results fn tmps).run Try.prog w = .ok (V8 n) w := by
  have hp' : tmps[p]?.getD undef = .pointer (some ⟨b, 0, none⟩) := by simpa using hp
  simp [results, h, hp', asAddr, go_sem, hg]
theorem results_bool {fn : Func} {p : Tmp} (h : fn.results = #[.cell p 4]) (tmps : Array Value) (w : World) (b : Nat) (x : Bool) (hp : tmps.getD p undef = .pointer (some ⟨b, 0, none⟩)) (hg : w.cell? ⟨b, 0, none⟩ = some (.bool x)) : (results fn tmps).run Try.prog w = .ok (.bool x) w := by
  have hp' : tmps[p]?.getD undef = .pointer (some ⟨b, 0, none⟩) := by simpa using hp
  simp [results, h, hp', asAddr, go_sem, hg]
theorem results_bytes {fn : Func} {p : Tmp} (h : fn.results = #[.cell p 22]) (tmps : Array Value) (w : World) (b : Nat) (a : Option Addr) (n c : Nat) (hp : tmps.getD p undef = .pointer (some ⟨b, 0, none⟩)) (hg : w.cell? ⟨b, 0, none⟩ = some (.slice a n c)) : (results fn tmps).run Try.prog w = .ok (.slice a n c) w := by
  have hp' : tmps[p]?.getD undef = .pointer (some ⟨b, 0, none⟩) := by simpa using hp
  simp [results, h, hp', asAddr, go_sem, hg]
set_option maxRecDepth 100000 in
theorem rByte_skip (B g : Nat) (v : Value) (R : Rr) (w : World) (h : IsR w B g v R) (he : R.e ≠ 0) :
    Calls Try.prog 68 #[.pointer (some ⟨g, 0, none⟩)] w fun e w' => e = .returned (V8 0) ∧ Mod [] w w' := by
  have hmf : ∀ (fn : Fn) (first cap : Array Value) (w : World), (Instr.makeFunc fn first cap).run Try.prog w = .ok (.func fn first cap) w := fun _ _ _ _ => rfl
  obtain ⟨W2, hW2⟩ : ∃ W, W = (w.alloc (.cells #[.pointer (some ⟨g, 0, none⟩)] 23)).alloc (.cells #[V8 0] 5) := ⟨_, rfl⟩
  have hm2 : Mod [] w W2 := by rw [hW2]; exact ((Mod.refl [] w).alloc _).alloc _
  have hbn : W2.heap[w.heap.size + 1]? = some (.cells #[V8 0] 5 (0, 0)) := by rw [hW2]; exact hp_new _ _ _ (by simp)
  have hbr : W2.heap[w.heap.size]? = some (.cells #[.pointer (some ⟨g, 0, none⟩)] 23 (0, 0)) := by rw [hW2]; exact hp_old (hp_new w _ _ rfl)
  have cbr : W2.cell? ⟨w.heap.size, 0, none⟩ = some (.pointer (some ⟨g, 0, none⟩)) := by rw [cell_blk hbr]; rfl
  have hTY := try_skip B g v R W2 (h.mod0 hm2) he (.func (.func 98) #[] #[.pointer (some ⟨w.heap.size, 0, none⟩), .pointer (some ⟨w.heap.size + 1, 0, none⟩)])
  rw [hW2] at hTY
  have HTY := Lib.hid hTY
  have HW2 := Lib.hid hW2
  have HM2 := Lib.hid hm2
  have HBN := Lib.hid hbn
  have HCB := Lib.hid cbr
  clear h he hTY hm2 hbn hW2 hbr cbr
  go_enter Try.func68, Try.ntmps68
  go_wp2_with fail
  refine HTY.out.mono ?_
  rintro e w3 ⟨rfl, hm⟩
  rw [← HW2.out] at hm
  have hb := hm.get0 HBN.out
  have c1 : w3.cell? ⟨w.heap.size + 1, 0, none⟩ = some (V8 0) := by rw [cell_blk hb]; rfl
  have f1 := frozen_blk hb 0
  have HG1 := Lib.hid (show (w3.setCell ⟨w.heap.size + 1, 0, none⟩ (V8 0)).cell? ⟨w.heap.size + 1, 0, none⟩ = some (V8 0) by rw [cell_blk (hp_sc hb)]; rfl)
  have HM := Lib.hid ((HM2.out.trans0 hm).setCell (p := ⟨w.heap.size + 1, 0, none⟩) (.inr (by simp)) (V8 0))
  clear hb hm
  go_wp2_with fail
  exact bodyPost_ret (results_u8 rfl _ _ (w.heap.size + 1) 0 rfl HG1.out) rfl ⟨rfl, HM.out⟩
set_option maxRecDepth 100000 in
theorem rFlag_skip (B g : Nat) (v : Value) (R : Rr) (w : World) (h : IsR w B g v R) (he : R.e ≠ 0) :
    Calls Try.prog 69 #[.pointer (some ⟨g, 0, none⟩)] w fun e w' => e = .returned (.bool false) ∧ Mod [] w w' := by
  have hmf : ∀ (fn : Fn) (first cap : Array Value) (w : World), (Instr.makeFunc fn first cap).run Try.prog w = .ok (.func fn first cap) w := fun _ _ _ _ => rfl
  obtain ⟨W2, hW2⟩ : ∃ W, W = (w.alloc (.cells #[.pointer (some ⟨g, 0, none⟩)] 23)).alloc (.cells #[.bool false] 4) := ⟨_, rfl⟩
  have hm2 : Mod [] w W2 := by rw [hW2]; exact ((Mod.refl [] w).alloc _).alloc _
  have hbn : W2.heap[w.heap.size + 1]? = some (.cells #[.bool false] 4 (0, 0)) := by rw [hW2]; exact hp_new _ _ _ (by simp)
  have hbr : W2.heap[w.heap.size]? = some (.cells #[.pointer (some ⟨g, 0, none⟩)] 23 (0, 0)) := by rw [hW2]; exact hp_old (hp_new w _ _ rfl)
  have cbr : W2.cell? ⟨w.heap.size, 0, none⟩ = some (.pointer (some ⟨g, 0, none⟩)) := by rw [cell_blk hbr]; rfl
  have hTY := try_skip B g v R W2 (h.mod0 hm2) he (.func (.func 100) #[] #[.pointer (some ⟨w.heap.size, 0, none⟩), .pointer (some ⟨w.heap.size + 1, 0, none⟩)])
  rw [hW2] at hTY
  have HTY := Lib.hid hTY
  have HW2 := Lib.hid hW2
  have HM2 := Lib.hid hm2
  have HBN := Lib.hid hbn
  have HCB := Lib.hid cbr
  clear h he hTY hm2 hbn hW2 hbr cbr
  go_enter Try.func69, Try.ntmps69
  go_wp2_with fail
  refine HTY.out.mono ?_
  rintro e w3 ⟨rfl, hm⟩
  rw [← HW2.out] at hm
  have hb := hm.get0 HBN.out
  have c1 : w3.cell? ⟨w.heap.size + 1, 0, none⟩ = some (.bool false) := by rw [cell_blk hb]; rfl
  have f1 := frozen_blk hb 0
  have HG1 := Lib.hid (show (w3.setCell ⟨w.heap.size + 1, 0, none⟩ (.bool false)).cell? ⟨w.heap.size + 1, 0, none⟩ = some (.bool false) by rw [cell_blk (hp_sc hb)]; rfl)
  have HM := Lib.hid ((HM2.out.trans0 hm).setCell (p := ⟨w.heap.size + 1, 0, none⟩) (.inr (by simp)) (.bool false))
  clear hb hm
  go_wp2_with fail
  exact bodyPost_ret (results_bool rfl _ _ (w.heap.size + 1) false rfl HG1.out) rfl ⟨rfl, HM.out⟩
set_option maxRecDepth 100000 in
theorem rBytes_skip (B g : Nat) (v : Value) (R : Rr) (w : World) (h : IsR w B g v R) (he : R.e ≠ 0) (n : Int) :
    Calls Try.prog 70 #[.pointer (some ⟨g, 0, none⟩), .int .i64 n] w fun e w' => e = .returned (.slice none 0 0) ∧ Mod [] w w' := by
  have hmf : ∀ (fn : Fn) (first cap : Array Value) (w : World), (Instr.makeFunc fn first cap).run Try.prog w = .ok (.func fn first cap) w := fun _ _ _ _ => rfl
  obtain ⟨W2, hW2⟩ : ∃ W, W = ((w.alloc (.cells #[.pointer (some ⟨g, 0, none⟩)] 23)).alloc (.cells #[.int .i64 n] 3)).alloc (.cells #[.slice none 0 0] 22) := ⟨_, rfl⟩
  have hm2 : Mod [] w W2 := by rw [hW2]; exact (((Mod.refl [] w).alloc _).alloc _).alloc _
  have hbn : W2.heap[w.heap.size + 2]? = some (.cells #[.slice none 0 0] 22 (0, 0)) := by rw [hW2]; exact hp_new _ _ _ (by simp)
  have hbr : W2.heap[w.heap.size]? = some (.cells #[.pointer (some ⟨g, 0, none⟩)] 23 (0, 0)) := by rw [hW2]; exact hp_old (hp_old (hp_new w _ _ rfl))
  have cbr : W2.cell? ⟨w.heap.size, 0, none⟩ = some (.pointer (some ⟨g, 0, none⟩)) := by rw [cell_blk hbr]; rfl
  have hTY := try_skip B g v R W2 (h.mod0 hm2) he (.func (.func 101) #[] #[.pointer (some ⟨w.heap.size, 0, none⟩), .pointer (some ⟨w.heap.size + 1, 0, none⟩), .pointer (some ⟨w.heap.size + 2, 0, none⟩)])
  rw [hW2] at hTY
  have HTY := Lib.hid hTY
  have HW2 := Lib.hid hW2
  have HM2 := Lib.hid hm2
  have HBN := Lib.hid hbn
  have HCB := Lib.hid cbr
  clear h he hTY hm2 hbn hW2 hbr cbr
  go_enter Try.func70, Try.ntmps70
  go_wp2_with fail
  refine HTY.out.mono ?_
  rintro e w3 ⟨rfl, hm⟩
  rw [← HW2.out] at hm
  have hb := hm.get0 HBN.out
  have c1 : w3.cell? ⟨w.heap.size + 2, 0, none⟩ = some (.slice none 0 0) := by rw [cell_blk hb]; rfl
  have f1 := frozen_blk hb 0
  have HG1 := Lib.hid (show (w3.setCell ⟨w.heap.size + 2, 0, none⟩ (.slice none 0 0)).cell? ⟨w.heap.size + 2, 0, none⟩ = some (.slice none 0 0) by rw [cell_blk (hp_sc hb)]; rfl)
  have HM := Lib.hid ((HM2.out.trans0 hm).setCell (p := ⟨w.heap.size + 2, 0, none⟩) (.inr (by simp)) (.slice none 0 0))
  clear hb hm
  go_wp2_with fail
  exact bodyPost_ret (results_bytes rfl _ _ (w.heap.size + 2) none 0 0 rfl HG1.out) rfl ⟨rfl, HM.out⟩
set_option maxRecDepth 100000 in
theorem rWide_skip (B g : Nat) (v : Value) (R : Rr) (w : World) (h : IsR w B g v R) (he : R.e ≠ 0) :
    Calls Try.prog 71 #[.pointer (some ⟨g, 0, none⟩)] w fun e w' => e = .returned (.agg ((List.replicate 4 0).map V64).toArray) ∧ Mod [] w w' := by
  have hmf : ∀ (fn : Fn) (first cap : Array Value) (w : World), (Instr.makeFunc fn first cap).run Try.prog w = .ok (.func fn first cap) w := fun _ _ _ _ => rfl
  obtain ⟨zs, hzs⟩ : ∃ zs, zs = ((List.replicate 4 0).map V64).toArray := ⟨_, rfl⟩
  have hsz : zs.size = 4 := by rw [hzs]; simp
  have hone : zs.all (·.oneCell') = true := by rw [hzs]; simp [one64]
  obtain ⟨W2, hW2⟩ : ∃ W, W = (w.alloc (.cells #[.pointer (some ⟨g, 0, none⟩)] 23)).alloc (.cells zs 46) := ⟨_, rfl⟩
  have hm2 : Mod [] w W2 := by rw [hW2]; exact ((Mod.refl [] w).alloc _).alloc _
  have hbn : W2.heap[w.heap.size + 1]? = some (.cells zs 46 (0, 0)) := by rw [hW2]; exact hp_new _ _ _ (by simp)
  have hbr : W2.heap[w.heap.size]? = some (.cells #[.pointer (some ⟨g, 0, none⟩)] 23 (0, 0)) := by rw [hW2]; exact hp_old (hp_new w _ _ rfl)
  have cbr : W2.cell? ⟨w.heap.size, 0, none⟩ = some (.pointer (some ⟨g, 0, none⟩)) := by rw [cell_blk hbr]; rfl
  have HTY := Lib.hid (try_skip B g v R W2 (h.mod0 hm2) he (.func (.func 102) #[] #[.pointer (some ⟨w.heap.size, 0, none⟩), .pointer (some ⟨w.heap.size + 1, 0, none⟩)]))
  have HW2 := Lib.hid hW2
  have HM2 := Lib.hid hm2
  have HBN := Lib.hid hbn
  have HCB := Lib.hid cbr
  have HZS := Lib.hid hzs
  have HONE := Lib.hid hone
  have HSZ := Lib.hid hsz
  rw [← hzs]
  clear h he hm2 hbn hW2 hbr cbr hzs hone hsz
  go_enter Try.func71, Try.ntmps71
  go_wp2_with fail
  refine Eq.mpr (congrArg (fun W => Calls _ _ _ W _) (show _ = W2 by rw [HW2.out, HZS.out]; rfl)) ?_
  refine HTY.out.mono ?_
  rintro e w3 ⟨rfl, hm⟩
  have hb := hm.get0 HBN.out
  have hL := loadO_row (P := Try.prog) (ty := 46) hb Try.underlying46 rfl (by rw [HSZ.out]; exact infoWd)
  have hS := storeO_row (P := Try.prog) (ty := 46) (cells := zs) hb rfl (by rw [HSZ.out]; exact infoWd) HONE.out
  have HC0 := Lib.hid (hp_setRow (cs := zs) hb)
  have HM3 := Lib.hid ((HM2.out.trans0 hm).setRow (g := w.heap.size + 1) (.inr (by simp)) zs)
  clear hb hm
  go_wp2_with fail
  exact bodyPost_ret (results_cell_row rfl _ _ (w.heap.size + 1) _ zs (0, 0) _ rfl HC0.out Try.underlying46 rfl (by rw [HSZ.out]; exact infoWd)) rfl ⟨rfl, HM3.out⟩
set_option maxRecDepth 100000 in
theorem rDigest_skip (B g : Nat) (v : Value) (R : Rr) (w : World) (h : IsR w B g v R) (he : R.e ≠ 0) :
    Calls Try.prog 72 #[.pointer (some ⟨g, 0, none⟩)] w fun e w' => e = .returned (.agg ((zeros 32).map V8).toArray) ∧ Mod [] w w' := by
  have hmf : ∀ (fn : Fn) (first cap : Array Value) (w : World), (Instr.makeFunc fn first cap).run Try.prog w = .ok (.func fn first cap) w := fun _ _ _ _ => rfl
  obtain ⟨zs, hzs⟩ : ∃ zs, zs = ((zeros 32).map V8).toArray := ⟨_, rfl⟩
  have hsz : zs.size = 32 := by rw [hzs]; simp [zeros_length]
  have hone : zs.all (·.oneCell') = true := by rw [hzs]; simp [one8]
  obtain ⟨W2, hW2⟩ : ∃ W, W = (w.alloc (.cells #[.pointer (some ⟨g, 0, none⟩)] 23)).alloc (.cells zs 88) := ⟨_, rfl⟩
  have hm2 : Mod [] w W2 := by rw [hW2]; exact ((Mod.refl [] w).alloc _).alloc _
  have hbn : W2.heap[w.heap.size + 1]? = some (.cells zs 88 (0, 0)) := by rw [hW2]; exact hp_new _ _ _ (by simp)
  have hbr : W2.heap[w.heap.size]? = some (.cells #[.pointer (some ⟨g, 0, none⟩)] 23 (0, 0)) := by rw [hW2]; exact hp_old (hp_new w _ _ rfl)
  have cbr : W2.cell? ⟨w.heap.size, 0, none⟩ = some (.pointer (some ⟨g, 0, none⟩)) := by rw [cell_blk hbr]; rfl
  have HTY := Lib.hid (try_skip B g v R W2 (h.mod0 hm2) he (.func (.func 103) #[] #[.pointer (some ⟨w.heap.size + 1, 0, none⟩), .pointer (some ⟨w.heap.size, 0, none⟩)]))
  have HW2 := Lib.hid hW2
  have HM2 := Lib.hid hm2
  have HBN := Lib.hid hbn
  have HCB := Lib.hid cbr
  have HZS := Lib.hid hzs
  have HONE := Lib.hid hone
  have HSZ := Lib.hid hsz
  rw [← hzs]
  clear h he hm2 hbn hW2 hbr cbr hzs hone hsz
  go_enter Try.func72, Try.ntmps72
  go_wp2_with fail
  refine Eq.mpr (congrArg (fun W => Calls _ _ _ W _) (show _ = W2 by rw [HW2.out, HZS.out]; rfl)) ?_
  refine HTY.out.mono ?_
  rintro e w3 ⟨rfl, hm⟩
  have hb := hm.get0 HBN.out
  have hL := loadO_row (P := Try.prog) (ty := 88) hb Try.underlying88 rfl (by rw [HSZ.out]; exact info32)
  have hS := storeO_row (P := Try.prog) (ty := 88) (cells := zs) hb rfl (by rw [HSZ.out]; exact info32) HONE.out
  have HC0 := Lib.hid (hp_setRow (cs := zs) hb)
  have HM3 := Lib.hid ((HM2.out.trans0 hm).setRow (g := w.heap.size + 1) (.inr (by simp)) zs)
  clear hb hm
  go_wp2_with fail
  exact bodyPost_ret (results_cell_row rfl _ _ (w.heap.size + 1) _ zs (0, 0) _ rfl HC0.out Try.underlying88 rfl (by rw [HSZ.out]; exact info32)) rfl ⟨rfl, HM3.out⟩
set_option maxRecDepth 100000 in
theorem rAddress_skip (B g : Nat) (v : Value) (R : Rr) (w : World) (h : IsR w B g v R) (he : R.e ≠ 0) :
    Calls Try.prog 73 #[.pointer (some ⟨g, 0, none⟩)] w fun e w' => e = .returned (.agg ((zeros 20).map V8).toArray) ∧ Mod [] w w' := by
  have hmf : ∀ (fn : Fn) (first cap : Array Value) (w : World), (Instr.makeFunc fn first cap).run Try.prog w = .ok (.func fn first cap) w := fun _ _ _ _ => rfl
  obtain ⟨zs, hzs⟩ : ∃ zs, zs = ((zeros 20).map V8).toArray := ⟨_, rfl⟩
  have hsz : zs.size = 20 := by rw [hzs]; simp [zeros_length]
  have hone : zs.all (·.oneCell') = true := by rw [hzs]; simp [one8]
  obtain ⟨W2, hW2⟩ : ∃ W, W = (w.alloc (.cells #[.pointer (some ⟨g, 0, none⟩)] 23)).alloc (.cells zs 92) := ⟨_, rfl⟩
  have hm2 : Mod [] w W2 := by rw [hW2]; exact ((Mod.refl [] w).alloc _).alloc _
  have hbn : W2.heap[w.heap.size + 1]? = some (.cells zs 92 (0, 0)) := by rw [hW2]; exact hp_new _ _ _ (by simp)
  have hbr : W2.heap[w.heap.size]? = some (.cells #[.pointer (some ⟨g, 0, none⟩)] 23 (0, 0)) := by rw [hW2]; exact hp_old (hp_new w _ _ rfl)
  have cbr : W2.cell? ⟨w.heap.size, 0, none⟩ = some (.pointer (some ⟨g, 0, none⟩)) := by rw [cell_blk hbr]; rfl
  have HTY := Lib.hid (try_skip B g v R W2 (h.mod0 hm2) he (.func (.func 104) #[] #[.pointer (some ⟨w.heap.size + 1, 0, none⟩), .pointer (some ⟨w.heap.size, 0, none⟩)]))
  have HW2 := Lib.hid hW2
  have HM2 := Lib.hid hm2
  have HBN := Lib.hid hbn
  have HCB := Lib.hid cbr
  have HZS := Lib.hid hzs
  have HONE := Lib.hid hone
  have HSZ := Lib.hid hsz
  rw [← hzs]
  clear h he hm2 hbn hW2 hbr cbr hzs hone hsz
  go_enter Try.func73, Try.ntmps73
  go_wp2_with fail
  refine Eq.mpr (congrArg (fun W => Calls _ _ _ W _) (show _ = W2 by rw [HW2.out, HZS.out]; rfl)) ?_
  refine HTY.out.mono ?_
  rintro e w3 ⟨rfl, hm⟩
  have hb := hm.get0 HBN.out
  have hL := loadO_row (P := Try.prog) (ty := 92) hb Try.underlying92 rfl (by rw [HSZ.out]; exact info20)
  have hS := storeO_row (P := Try.prog) (ty := 92) (cells := zs) hb rfl (by rw [HSZ.out]; exact info20) HONE.out
  have HC0 := Lib.hid (hp_setRow (cs := zs) hb)
  have HM3 := Lib.hid ((HM2.out.trans0 hm).setRow (g := w.heap.size + 1) (.inr (by simp)) zs)
  clear hb hm
  go_wp2_with fail
  exact bodyPost_ret (results_cell_row rfl _ _ (w.heap.size + 1) _ zs (0, 0) _ rfl HC0.out Try.underlying92 rfl (by rw [HSZ.out]; exact info20)) rfl ⟨rfl, HM3.out⟩
end Go.Proofs.Ytnmcbdppbpfegaa
