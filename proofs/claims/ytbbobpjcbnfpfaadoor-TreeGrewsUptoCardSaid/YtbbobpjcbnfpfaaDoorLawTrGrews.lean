/- TreeGrews. Conditions: the tables lie in their variables; at most 2^20 bytes and digests. -/
import Derived.Test.YtbbobpjcbnfpfaaDoorTrSame
import Derived.Test.YtbbobpjcbnfpfaaDoorTrRGrew
import Derived.Test.YtbbobpjcbnfpfaaDoorTrGrew
import Derived.Test.YtbbobpjcbnfpfaaDoorTrAwake
namespace Go.Proofs.YtbbobpjcbnfpfaaDoor
open Go.RowKit
attribute [local go_sem high] one8 st8 cm8 b_and8 b_and8r b_and8l b_or8 b_or8r b_or8l b_xor8 b_xor8r b_xor8l b_andNot8 b_andNot8r b_andNot8l b_add8 b_add8r b_add8l b_sub8 b_sub8r b_sub8l b_mul8 b_mul8r b_mul8l b_eql8 b_eql8r b_eql8l b_neq8 b_neq8r b_neq8l b_lss8 b_lss8r b_lss8l b_leq8 b_leq8r b_leq8l b_gtr8 b_gtr8r b_gtr8l b_geq8 b_geq8r b_geq8l b_quo8r b_rem8r b_shl8r b_shr8r b_shl8l b_shr8l u_xor8 g_eql8 g_neq8 g_eql8' g_neq8' one32 st32 cm32 b_and32 b_and32r b_and32l b_or32 b_or32r b_or32l b_xor32 b_xor32r b_xor32l b_andNot32 b_andNot32r b_andNot32l b_add32 b_add32r b_add32l b_sub32 b_sub32r b_sub32l b_mul32 b_mul32r b_mul32l b_eql32 b_eql32r b_eql32l b_neq32 b_neq32r b_neq32l b_lss32 b_lss32r b_lss32l b_leq32 b_leq32r b_leq32l b_gtr32 b_gtr32r b_gtr32l b_geq32 b_geq32r b_geq32l b_quo32r b_rem32r b_shl32r b_shr32r b_shl32l b_shr32l u_xor32 g_eql32 g_neq32 g_eql32' g_neq32' one64 st64 cm64 b_and64 b_and64r b_and64l b_or64 b_or64r b_or64l b_xor64 b_xor64r b_xor64l b_andNot64 b_andNot64r b_andNot64l b_add64 b_add64r b_add64l b_sub64 b_sub64r b_sub64l b_mul64 b_mul64r b_mul64l b_eql64 b_eql64r b_eql64l b_neq64 b_neq64r b_neq64l b_lss64 b_lss64r b_lss64l b_leq64 b_leq64r b_leq64l b_gtr64 b_gtr64r b_gtr64l b_geq64 b_geq64r b_geq64l b_quo64r b_rem64r b_shl64r b_shr64r b_shl64l b_shr64l u_xor64 g_eql64 g_neq64 g_eql64' g_neq64' c_u8_u8 c_u8_u32 c_u8_u64 c_i_u8 c_u32_u8 c_u32_u32 c_u32_u64 c_i_u32 c_u64_u8 c_u64_u32 c_u64_u64 c_i_u64 c_u8_i c_u32_i
attribute [local go_sem ↓] ce8 ce32 ce64
attribute [local go_sem ↓] sliced_slp loadO26 storeO26 buildO24
/-- What a growth is looked at with. -/
structure Ps where
  was : Bs
  old : Int
  root : Bs
  size : Int
  pp : Option Addr
  pc : Nat
  path : List Bs
def Ps.cells (x : Ps) : List Value := x.was.map V8 ++ (.int .i64 x.old :: (x.root.map V8 ++ [.int .i64 x.size, .slice x.pp x.path.length x.pc]))
structure Ps.In (W : World) (x : Ps) : Prop where
  was : x.was.length = 32
  root : x.root.length = 32
  o0 : -9223372036854775808 ≤ x.old
  o1 : x.old ≤ 9223372036854775807
  s0 : -9223372036854775808 ≤ x.size
  s1 : x.size ≤ 9223372036854775807
  path : RdD W x.pp x.pc x.path
  p32 : All32 x.path
  lp : x.path.length ≤ 1048576
structure PsBox (w : World) (b : Nat) (x : Ps) : Prop where
  r : (LoadO 24 (.pointer (some ⟨b, 0, none⟩))).run Tryd.prog w = .ok (dv x.was) w
  rg : w.rangeAt b 0 (x.was.map V8)
  q : (LoadO 24 (.pointer (some ⟨b, 33, none⟩))).run Tryd.prog w = .ok (dv x.root) w
  qg : w.rangeAt b 33 (x.root.map V8)
  c32 : w.cell? ⟨b, 32, none⟩ = some (.int .i64 x.old)
  c65 : w.cell? ⟨b, 65, none⟩ = some (.int .i64 x.size)
  c66 : w.cell? ⟨b, 66, none⟩ = some (.slice x.pp x.path.length x.pc)
theorem Ps.box {w : World} {b : Nat} {x : Ps} {t : TypeId} (h : w.heap[b]? = some (.cells x.cells.toArray t)) (hw : x.was.length = 32) (hr : x.root.length = 32) : PsBox w b x := by
  have e1 : (x.was.map V8).length = 32 := by rw [List.length_map, hw]
  have e2 : (x.root.map V8).length = 32 := by rw [List.length_map, hr]
  have g1 : w.rangeAt b 0 (x.was.map V8) := range_blk h 0 _ (fun j v hv => by
    rw [Nat.zero_add, List.getElem?_toArray]
    unfold Ps.cells
    rw [List.getElem?_append_left (List.getElem?_eq_some_iff.1 hv).1]
    exact hv)
  have g2 : w.rangeAt b 33 (x.root.map V8) := range_blk h 33 _ (fun j v hv => by
    rw [List.getElem?_toArray]
    unfold Ps.cells
    rw [List.getElem?_append_right (by omega), e1, show 33 + j - 32 = j + 1 by omega, List.getElem?_cons_succ, List.getElem?_append_left (List.getElem?_eq_some_iff.1 hv).1]
    exact hv)
  refine ⟨loadO_mid g1 Tryd.underlying24 rfl (by rw [e1]; exact info26), g1, loadO_mid g2 Tryd.underlying24 rfl (by rw [e2]; exact info26), g2, ?_, ?_, ?_⟩
  · rw [cell_blk h, List.getElem?_toArray]
    unfold Ps.cells
    rw [List.getElem?_append_right (by omega), e1]; rfl
  · rw [cell_blk h, List.getElem?_toArray]
    unfold Ps.cells
    rw [List.getElem?_append_right (by omega), e1, show 65 - 32 = 32 + 1 by rfl, List.getElem?_cons_succ, List.getElem?_append_right (by omega), e2]; rfl
  · rw [cell_blk h, List.getElem?_toArray]
    unfold Ps.cells
    rw [List.getElem?_append_right (by omega), e1, show 66 - 32 = 33 + 1 by rfl, List.getElem?_cons_succ, List.getElem?_append_right (by omega), e2]; rfl
set_option maxRecDepth 100000 in
set_option maxHeartbeats 2000000 in
theorem grews_law {hf : Bs → Bs} (x : Ps) (w : World) (h : x.In w) (H : Hs hf w) (R : Rf w) :
    Calls Tryd.prog 9 #[.agg x.cells.toArray] w fun e w' => e = .returned (.bool true) ∧ Mod [] w w' := by
  have HH := Lib.hid H
  have HRf := Lib.hid R
  have HI := Lib.hid h
  have M0 := Lib.hid ((Mod.refl [] w).alloc (.cells x.cells.toArray 64))
  have HBX := Lib.hid (hp_new w (.cells x.cells.toArray 64) _ rfl)
  clear H R h
  have g2 := HI.out.lp
  have hi26 : (Tryd.prog.info? 24).map (·.size) = some (x.was.map V8).length := by rw [List.length_map, HI.out.was]; exact info26
  have hi27 : (Tryd.prog.info? 24).map (·.size) = some (x.root.map V8).length := by rw [List.length_map, HI.out.root]; exact info26
  go_enter Tryd.func9, Tryd.ntmps9
  go_wp2_with fail
  refine (awake_any _ (HH.out.mod0 M0.out)).mono ?_
  rintro e w1 ⟨rfl, m1⟩
  have M1 := Lib.hid (M0.out.trans0 m1)
  have HB1 := Lib.hid (m1.get0 HBX.out)
  clear m1 M0 HBX
  obtain ⟨hL1, hL2, hQ1, hQ2, a32, a65, a66⟩ := Ps.box HB1.out HI.out.was HI.out.root
  go_wp2_with fail
  refine (lentPath_any x.pp x.pc x.path.length x.path w1 rfl (HI.out.path.mod0 M1.out) (by omega)).mono ?_
  rintro e w3 ⟨rfl, hp2, m2⟩
  have M3 := Lib.hid (M1.out.trans0 m2)
  have HB3 := Lib.hid (m2.get0 HB1.out)
  have HP3 := Lib.hid hp2
  obtain ⟨bp, hbp⟩ : ∃ bp, bp = w1.heap.size := ⟨_, rfl⟩
  rw [← hbp] at HP3 ⊢
  have NBP := Lib.hid (show w.heap.size ≤ bp from by rw [hbp]; exact M1.out.size)
  have NB0 := Lib.hid (show w.heap.size ≠ bp from by rw [hbp]; have := lt_of_block HB1.out; omega)
  clear hp2 m2 HB1 hL1 hL2 hQ1 hQ2 a32 a65 a66 hbp
  obtain ⟨hL1, hL2, hQ1, hQ2, a32, a65, a66⟩ := Ps.box HB3.out HI.out.was HI.out.root
  obtain ⟨m, hm⟩ : ∃ m, m = x.path.length := ⟨_, rfl⟩
  rw [← hm] at a66 g2 ⊢
  have HM := Lib.hid hm
  obtain ⟨E, hE⟩ : ∃ E, E = grewE hf x.was x.old x.root x.size x.path := ⟨_, rfl⟩
  have HC3 := Lib.hid (fun (W : World) (k : Mod [] w3 W) => grew_any (hf := hf) x.was x.root x.old x.size x.path (some ⟨bp, 0, none⟩) m (m + 9) W hm
    (by have h := (rdD_blk (l := x.path ++ mks 9) (m := []) (c := m + 9) (by rw [List.append_nil]; exact k.get0 HP3.out) (by simp [mks_length, hm])).take x.path.length; rwa [List.take_left' rfl] at h) HI.out.p32 HI.out.was HI.out.root (HH.out.mod0 (M3.out.trans0 k)))
  rw [← hE] at HC3
  have HE := Lib.hid hE
  clear hm hE
  have f3 : (0 : Int) ≤ (m : Int) := by omega
  have f4 : (m : Int) ≤ (m : Int) + 9 := by omega
  go_wp2_with fail
  go_still_tail 13, (by kernel_rfl)
  refine still_load_mid rfl _ _ rfl _ 0 rfl _ _ hL2 Tryd.underlying24 rfl hi26 ?_
  repeat still_step
  refine still_load_mid rfl _ _ rfl _ 33 rfl _ _ hQ2 Tryd.underlying24 rfl hi27 ?_
  repeat still_step
  refine wpStill_nil ?_
  change wpList _ _ _ _ _ w3.drew
  go_wp2_with fail
  refine (HC3.out _ (Mod.refl [] w3).drew).mono ?_
  rintro e w4 ⟨rfl, m4'⟩
  have m4 := (Mod.refl [] w3).drew.trans0 m4'
  have M4 := Lib.hid (M3.out.trans0 m4)
  have HB4 := Lib.hid (m4.get0 HB3.out)
  have HP4 := Lib.hid (m4.get0 HP3.out)
  clear m4 m4' hL1 hL2 hQ1 hQ2 a32 a65 a66 HB3 HP3 HC3
  obtain ⟨hL1, hL2, hQ1, hQ2, a32, a65, a66⟩ := Ps.box HB4.out HI.out.was HI.out.root
  rw [← HM.out] at a66
  go_wp2_with fail
  refine (keptPath_any bp (m + 9) x.path x.pp x.pc m x.path (m + 9) HM.out rfl rfl w4 (rdD_blk (m := []) (by rw [List.append_nil]; exact HP4.out) (by rw [List.length_append, mks_length, HM.out]; omega)) (HI.out.path.mod0 M4.out) HI.out.p32 HI.out.p32 (by omega)).mono ?_
  rintro e w5 ⟨rfl, m5⟩
  have M5 := Lib.hid (M4.out.trans0 m5)
  have HB5 := Lib.hid (m5.get0 HB4.out)
  have HP5 := Lib.hid (m5.get0 HP4.out)
  have hqp : (x.path == x.path) = true := by simp
  rw [hqp]
  clear m5 hqp hL1 hL2 hQ1 hQ2 a32 a65 a66 HB4 HP4
  obtain ⟨hL1, hL2, hQ1, hQ2, a32, a65, a66⟩ := Ps.box HB5.out HI.out.was HI.out.root
  rw [← HM.out] at a66
  go_wp2_with fail
  have hE7 := rgrew_any (hf := hf) x.was x.root x.old x.size x.path x.pp m x.pc w5 HM.out (by omega) (HI.out.path.mod0 M5.out) HI.out.p32 HI.out.was HI.out.root (HH.out.mod0 M5.out) (HRf.out.mod0 M5.out)
  rw [← HE.out] at hE7
  refine hE7.mono ?_
  rintro e w7 ⟨rfl, m7⟩
  have M7 := Lib.hid (M5.out.trans0 m7)
  have HB7 := Lib.hid (m7.get0 HB5.out)
  have HP7 := Lib.hid (m7.get0 HP5.out)
  clear m7 hE7 hL1 hL2 hQ1 hQ2 a32 a65 a66 HB5 HP5
  obtain ⟨hL1, hL2, hQ1, hQ2, a32, a65, a66⟩ := Ps.box HB7.out HI.out.was HI.out.root
  rw [← HM.out] at a66
  go_wp2_with fail
  refine (turn_any bp m (m + 9) (x.path ++ mks 9) w7 HP7.out (by rw [List.length_append, HM.out]; omega) (all_marks HI.out.p32 9) (by omega)).mono ?_
  rintro e w8 ⟨rfl, D, hDl, hDa, hp8, m8⟩
  have M8 := Lib.hid (M7.out.trans m8 (fun b hb => by rw [List.mem_singleton.1 hb]; exact .inr NBP.out))
  have HB8 := Lib.hid (m8.get HB7.out (fun hb => NB0.out (List.mem_singleton.1 hb)))
  have HP8 := Lib.hid hp8
  have HDL := Lib.hid hDl
  have HDA := Lib.hid hDa
  clear m8 hp8 hDl hDa hL1 hL2 hQ1 hQ2 a32 a65 a66 HB7 HP7
  obtain ⟨hL1, hL2, hQ1, hQ2, a32, a65, a66⟩ := Ps.box HB8.out HI.out.was HI.out.root
  rw [← HM.out] at a66
  obtain ⟨F, hF⟩ : ∃ F, F = grewE hf x.was x.old x.root x.size (D.take m) := ⟨_, rfl⟩
  have hlt2 : m = (D.take m).length := by have := HDL.out; rw [List.length_append, mks_length] at this; have := HM.out; simp; omega
  have hd32 : All32 (D.take m) := fun y hy => HDA.out y (List.mem_of_mem_take hy)
  have HRC := Lib.hid (fun (W : World) (k : Mod [] w8 W) => rgrew_any (hf := hf) x.was x.root x.old x.size (D.take m) (some ⟨bp, 0, none⟩) m (m + 9) W hlt2 (by omega)
    ((rdD_blk (l := D) (m := []) (c := m + 9) (by rw [List.append_nil]; exact k.get0 HP8.out) (by have := HDL.out; rw [List.length_append, mks_length] at this; have := HM.out; omega)).take m) hd32 HI.out.was HI.out.root (HH.out.mod0 (M8.out.trans0 k)) (HRf.out.mod0 (M8.out.trans0 k)))
  have HCC := Lib.hid (fun (W : World) (k : Mod [] w8 W) => grew_any (hf := hf) x.was x.root x.old x.size (D.take m) (some ⟨bp, 0, none⟩) m (m + 9) W hlt2
    ((rdD_blk (l := D) (m := []) (c := m + 9) (by rw [List.append_nil]; exact k.get0 HP8.out) (by have := HDL.out; rw [List.length_append, mks_length] at this; have := HM.out; omega)).take m) hd32 HI.out.was HI.out.root (HH.out.mod0 (M8.out.trans0 k)))
  rw [← hF] at HRC HCC
  clear hlt2 hF hd32
  go_wp2_with fail
  go_still_tail 13, (by kernel_rfl)
  refine still_load_mid rfl _ _ rfl _ 0 rfl _ _ hL2 Tryd.underlying24 rfl hi26 ?_
  repeat still_step
  refine still_load_mid rfl _ _ rfl _ 33 rfl _ _ hQ2 Tryd.underlying24 rfl hi27 ?_
  repeat still_step
  refine wpStill_nil ?_
  change wpList _ _ _ _ _ w8.drew
  go_wp2_with fail
  refine (HRC.out _ (Mod.refl [] w8).drew).mono ?_
  rintro e w9 ⟨rfl, m9'⟩
  have m9 := (Mod.refl [] w8).drew.trans0 m9'
  have HK9 := Lib.hid m9
  have HB9 := Lib.hid (m9.get0 HB8.out)
  clear m9 m9' hL1 hL2 hQ1 hQ2 a32 a65 a66
  obtain ⟨hL1, hL2, hQ1, hQ2, a32, a65, a66⟩ := Ps.box HB9.out HI.out.was HI.out.root
  rw [← HM.out] at a66
  go_wp2_with fail
  go_still_tail 13, (by kernel_rfl)
  refine still_load_mid rfl _ _ rfl _ 0 rfl _ _ hL2 Tryd.underlying24 rfl hi26 ?_
  repeat still_step
  refine still_load_mid rfl _ _ rfl _ 33 rfl _ _ hQ2 Tryd.underlying24 rfl hi27 ?_
  repeat still_step
  refine wpStill_nil ?_
  change wpList _ _ _ _ _ w9.drew
  go_wp2_with fail
  refine (HCC.out _ HK9.out.drew).mono ?_
  rintro e w10 ⟨rfl, m10⟩
  have M10 := Lib.hid ((M8.out.trans0 HK9.out.drew).trans0 m10)
  clear m10 hL1 hL2 hQ1 hQ2 a32 a65 a66
  go_wp2_with fail
  go_ret
  exact ⟨rfl, M10.out⟩
end Go.Proofs.YtbbobpjcbnfpfaaDoor
