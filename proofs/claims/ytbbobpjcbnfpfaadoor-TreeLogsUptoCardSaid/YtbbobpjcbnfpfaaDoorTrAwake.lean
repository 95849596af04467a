/- Three leaves in plain words. No condition. -/
import Derived.Test.YtbbobpjcbnfpfaaDoorTrCheck
import Derived.Test.YtbbobpjcbnfpfaaDoorTrLogP
import Derived.Test.YtbbobpjcbnfpfaaDoorTrPath
namespace Go.Proofs.YtbbobpjcbnfpfaaDoor
open Go.RowKit
theorem half3 : half 3 = 2 := by decide +kernel
theorem half2 : half 2 = 1 := by decide +kernel
theorem sides31 : sides 3 1 = [false, true] := by
  have s1 : sides (2 - 1) (1 - 1) = [] := by rw [sides, if_pos (by omega)]
  rw [sides, half3, if_neg (by omega), if_pos (by omega), sides, half2, if_neg (by omega), if_neg (by omega), s1]
  rfl
theorem root2 (hf : Bs → Bs) (a b : Bs) : rootH hf [a, b] = nodeH hf (leafH hf a) (leafH hf b) := by
  have h1 : ∀ x : Bs, rootH hf [x] = leafH hf x := fun x => by rw [rootH.eq_def]; rfl
  rw [rootH.eq_def, if_neg (by simp), show half [a, b].length = 1 from half2]
  simp only [List.take_succ_cons, List.take_zero, List.drop_succ_cons, List.drop_zero, h1]
theorem root3 (hf : Bs → Bs) (a b c : Bs) : rootH hf [a, b, c] = nodeH hf (nodeH hf (leafH hf a) (leafH hf b)) (leafH hf c) := by
  have h1 : ∀ x : Bs, rootH hf [x] = leafH hf x := fun x => by rw [rootH.eq_def]; rfl
  have h2 : rootH hf [a, b] = nodeH hf (leafH hf a) (leafH hf b) := by
    rw [rootH.eq_def, if_neg (by simp), show half [a, b].length = 1 from half2]
    simp only [List.take_succ_cons, List.take_zero, List.drop_succ_cons, List.drop_zero, h1]
  rw [rootH.eq_def, if_neg (by simp), show half [a, b, c].length = 2 from half3]
  simp only [List.take_succ_cons, List.take_zero, List.drop_succ_cons, List.drop_zero, h1, h2]
theorem path31 (hf : Bs → Bs) (a b c : Bs) : pathH hf [a, b, c] 1 = [leafH hf a, leafH hf c] := by
  have h1 : ∀ x : Bs, rootH hf [x] = leafH hf x := fun x => by rw [rootH.eq_def]; rfl
  rw [pathH.eq_def, if_neg (by simp), show half [a, b, c].length = 2 from half3, if_pos (by omega)]
  simp only [List.take_succ_cons, List.take_zero, List.drop_succ_cons, List.drop_zero, h1]
  rw [pathH.eq_def, if_neg (by simp), show half [a, b].length = 1 from half2, if_neg (by omega)]
  simp only [List.take_succ_cons, List.take_zero, List.drop_succ_cons, List.drop_zero, h1]
  rw [pathH.eq_def, if_pos (by simp)]
  rfl
theorem unlike_x : fin (1 :: (fin (1 :: (fin [0, 97] 0 0 ++ fin [0, 120] 0 0)) 0 0 ++ fin [0, 99] 0 0)) 0 0 ≠ fin (1 :: (fin (1 :: (fin [0, 97] 0 0 ++ fin [0, 98] 0 0)) 0 0 ++ fin [0, 99] 0 0)) 0 0 := by decide +kernel
/-- A path of three leaves is taken, another leaf is not. -/
theorem check_b (hf : Bs → Bs) : checkE hf (rootH hf [[97], [98], [99]]) 3 1 [98] (pathH hf [[97], [98], [99]] 1) = 0 := by
  unfold checkE
  rw [if_neg (by omega), if_neg (by omega), path31, root3]
  rw [if_pos]
  rw [shownH_eq, show (3 : Int).toNat = 3 from rfl, show (1 : Int).toNat = 1 from rfl, sides31]
  rfl
theorem check_x (hf : Bs → Bs) (hl : ∀ d, hf d = fin d 0 0) : checkE hf (rootH hf [[97], [98], [99]]) 3 1 [120] (pathH hf [[97], [98], [99]] 1) = 43 := by
  unfold checkE
  rw [if_neg (by omega), if_neg (by omega), path31, root3]
  rw [if_neg]
  rw [shownH_eq, show (3 : Int).toNat = 3 from rfl, show (1 : Int).toNat = 1 from rfl, sides31]
  intro h
  have h2 := Option.some.inj ((if_pos rfl).symm.trans h)
  simp only [List.zip_cons_cons, List.zip_nil_right, climb, Bool.false_eq_true, if_false, if_true, nodeH, leafH, hl] at h2
  exact unlike_x h2
end Go.Proofs.YtbbobpjcbnfpfaaDoor
namespace Go.Proofs.YtbbobpjcbnfpfaaDoor
open Go.RowKit
attribute [local go_sem high] one8 st8 cm8 b_and8 b_and8r b_and8l b_or8 b_or8r b_or8l b_xor8 b_xor8r b_xor8l b_andNot8 b_andNot8r b_andNot8l b_add8 b_add8r b_add8l b_sub8 b_sub8r b_sub8l b_mul8 b_mul8r b_mul8l b_eql8 b_eql8r b_eql8l b_neq8 b_neq8r b_neq8l b_lss8 b_lss8r b_lss8l b_leq8 b_leq8r b_leq8l b_gtr8 b_gtr8r b_gtr8l b_geq8 b_geq8r b_geq8l b_quo8r b_rem8r b_shl8r b_shr8r b_shl8l b_shr8l u_xor8 g_eql8 g_neq8 g_eql8' g_neq8' one32 st32 cm32 b_and32 b_and32r b_and32l b_or32 b_or32r b_or32l b_xor32 b_xor32r b_xor32l b_andNot32 b_andNot32r b_andNot32l b_add32 b_add32r b_add32l b_sub32 b_sub32r b_sub32l b_mul32 b_mul32r b_mul32l b_eql32 b_eql32r b_eql32l b_neq32 b_neq32r b_neq32l b_lss32 b_lss32r b_lss32l b_leq32 b_leq32r b_leq32l b_gtr32 b_gtr32r b_gtr32l b_geq32 b_geq32r b_geq32l b_quo32r b_rem32r b_shl32r b_shr32r b_shl32l b_shr32l u_xor32 g_eql32 g_neq32 g_eql32' g_neq32' one64 st64 cm64 b_and64 b_and64r b_and64l b_or64 b_or64r b_or64l b_xor64 b_xor64r b_xor64l b_andNot64 b_andNot64r b_andNot64l b_add64 b_add64r b_add64l b_sub64 b_sub64r b_sub64l b_mul64 b_mul64r b_mul64l b_eql64 b_eql64r b_eql64l b_neq64 b_neq64r b_neq64l b_lss64 b_lss64r b_lss64l b_leq64 b_leq64r b_leq64l b_gtr64 b_gtr64r b_gtr64l b_geq64 b_geq64r b_geq64l b_quo64r b_rem64r b_shl64r b_shr64r b_shl64l b_shr64l u_xor64 g_eql64 g_neq64 g_eql64' g_neq64' c_u8_u8 c_u8_u32 c_u8_u64 c_i_u8 c_u32_u8 c_u32_u32 c_u32_u64 c_i_u32 c_u64_u8 c_u64_u32 c_u64_u64 c_i_u64 c_u8_i c_u32_i
attribute [local go_sem ↓] ce8 ce32 ce64
attribute [local go_sem ↓] sliced_slp loadO26 storeO26 buildSlO42 buildO24
/-- []byte("..") of a constant. -/
theorem conv_const (W : World) (C : Array Value) (n c g : Nat) (hg : g = W.heap.size) : (convert 22 22 (.slice (some ⟨g, 0, none⟩) n c)).run Tryd.prog (W.alloc (.cells C 5)) = .ok (.slice (some ⟨g, 0, none⟩) n c) (W.alloc (.cells C 5 (C.size, C.size + 1))) := by
  subst hg
  exact Lib.run_convert_bytes_const W 22 5 C n c Tryd.underlying22 Tryd.underlying5
/-- Three leaves. -/
def RowPost (w : World) (e : Ending) (w' : World) : Prop := ∃ (xs : List SlR) (p : Option Addr), e = .returned (.slice p 3 3) ∧ Lv w' p 3 xs ∧ ds xs = [[97], [98], [99]] ∧ Mod [] w w'
set_option maxRecDepth 100000 in
theorem row_any (w : World) : Calls Tryd.prog 58 #[] w (RowPost w) := by
  have hcv := conv_const
  go_enter Tryd.func58, Tryd.ntmps58
  go_wp2_with fail
  go_ret
  refine ⟨[⟨some ⟨w.heap.size, 0, none⟩, 1, [97]⟩, ⟨some ⟨w.heap.size + 1, 0, none⟩, 1, [98]⟩, ⟨some ⟨w.heap.size + 1 + 1, 0, none⟩, 1, [99]⟩], some ⟨w.heap.size + 1 + 1 + 1, 0, none⟩, rfl, ⟨rd_sl (hp_new _ _ _ (by simp)) (by simp), ?_, ?_, by simp⟩, rfl, ?_⟩
  · intro x hx
    simp only [List.mem_cons, List.not_mem_nil, or_false] at hx
    rcases hx with rfl | rfl | rfl
    · exact rd_whole (x := [97]) (hp_old (hp_old (hp_old (hp_new _ _ _ (by simp))))) (by simp)
    · exact rd_whole (x := [98]) (hp_old (hp_old (hp_new _ _ _ (by simp)))) (by simp)
    · exact rd_whole (x := [99]) (hp_old (hp_new _ _ _ (by simp))) (by simp)
  · intro x hx
    simp only [List.mem_cons, List.not_mem_nil, or_false] at hx
    rcases hx with rfl | rfl | rfl <;> simp
  · repeat (first | exact Mod.refl [] _ | refine Mod.alloc ?_ _)
set_option maxRecDepth 100000 in
theorem awake_any {hf : Bs → Bs} (w : World) (H : Hs hf w) : Calls Tryd.prog 13 #[] w fun e w' => e = .returned (.bool true) ∧ Mod [] w w' := by
  have HH := Lib.hid H
  have hcb := check_b hf
  have hcx := check_x hf H.eq
  have hrl := rootH_len H.len [[97], [98], [99]]
  have hpl : All32 (pathH hf [[97], [98], [99]] 1) := by
    rw [path31]
    intro x hx
    simp only [List.mem_cons, List.not_mem_nil, or_false] at hx
    rcases hx with rfl | rfl
    · exact H.len _
    · exact H.len _
  have hp2 : (pathH hf [[97], [98], [99]] 1).length = 2 := by rw [path31]; rfl
  have hP : pathOf hf [[97], [98], [99]] 1 = pathH hf [[97], [98], [99]] 1 := by unfold pathOf; rw [if_neg (by simp)]; rfl
  have hE : pathE 3 1 = 0 := rfl
  have HP := Lib.hid hP
  have HE := Lib.hid hE
  obtain ⟨R, hR0⟩ : ∃ R, rootH hf [[97], [98], [99]] = R := ⟨_, rfl⟩
  rw [hR0] at hcb hcx hrl
  have HR0 := Lib.hid hR0
  generalize pathH hf [[97], [98], [99]] 1 = P at *
  have HCB := Lib.hid hcb
  have HCX := Lib.hid hcx
  have HRL := Lib.hid hrl
  have HPL := Lib.hid hpl
  have HP2 := Lib.hid hp2
  clear H hcb hcx hrl hpl hp2 hP hE hR0
  have hcv := conv_const
  go_enter Tryd.func13, Tryd.ntmps13
  go_wp2_with fail
  refine (row_any w).mono ?_
  rintro e w1 ⟨xs, p, rfl, hlv, hds, m1⟩
  have HLV := Lib.hid hlv
  have HDS := Lib.hid hds
  have M1 := Lib.hid m1
  clear hlv hds m1
  go_wp2_with fail
  refine (Path_any xs p 3 3 1 w1 (by have := congrArg List.length HDS.out; simpa using this.symm) HLV.out (HH.out.mod0 M1.out)).mono ?_
  rintro e w2 ⟨v, rfl, ho, m2⟩
  rw [HDS.out, HP.out] at ho
  rw [HE.out]
  obtain ⟨q, c, rfl, hrd, _, _⟩ := ho.rd
  rw [HP2.out]
  have HRD := Lib.hid hrd
  have M2 := Lib.hid (M1.out.trans0 m2)
  have HLV2 := Lib.hid (HLV.out.mod0 m2)
  clear ho hrd m2
  go_wp2_with fail
  refine (root_any 3 xs p 3 3 w2 (by have := congrArg List.length HDS.out; simpa using this.symm) (Nat.le_refl _) HLV2.out (HH.out.mod0 M2.out)).mono ?_
  rintro e w3 ⟨rfl, m3⟩
  rw [HDS.out, HR0.out]
  have hS := storeNewD w3 R HRL.out
  have hL := fun (X : Obj) => loadDv (w := (w3.alloc (.cells (R.map V8).toArray 24)).alloc X) R HRL.out (hp_old (hp_new _ _ _ rfl))
  have hL0 := loadDv (w := w3.alloc (.cells (R.map V8).toArray 24)) R HRL.out (hp_new _ _ _ rfl)
  have M3 := Lib.hid ((M2.out.trans0 m3).alloc (.cells (R.map V8).toArray 24))
  have HRD3 := Lib.hid (HRD.out.mod0 (m3.alloc (.cells (R.map V8).toArray 24)))
  have HRT := Lib.hid (hp_new w3 (.cells (R.map V8).toArray 24) _ rfl)
  clear m3
  go_wp2_with fail
  refine (check_any R 3 1 [98] _ _ _ P q 2 c _ rfl (rd_whole (x := [98]) (hp_new _ _ _ (by simp)) (by simp)) (by simp) HP2.out.symm (HRD3.out.mod0 ((Mod.refl [] _).alloc _)) HPL.out HRL.out (HH.out.mod0 (M3.out.alloc _))).mono ?_
  rintro e w4 ⟨rfl, m4⟩
  rw [HCB.out]
  have M4 := Lib.hid ((M3.out.alloc _).trans0 m4)
  have hL4 := loadDv R HRL.out (m4.get0 (hp_old HRT.out))
  have HRD4 := Lib.hid (HRD3.out.mod0 (((Mod.refl [] _).alloc _).trans0 m4))
  clear m4 hL hL0 hS
  go_wp2_with fail
  refine (check_any R 3 1 [120] _ _ _ P q 2 c _ rfl (rd_whole (x := [120]) (hp_new _ _ _ (by simp)) (by simp)) (by simp) HP2.out.symm (HRD4.out.mod0 ((Mod.refl [] _).alloc _)) HPL.out HRL.out (HH.out.mod0 (M4.out.alloc _))).mono ?_
  rintro e w5 ⟨rfl, m5⟩
  rw [HCX.out]
  go_wp2_with fail
  go_ret
  exact ⟨rfl, (M4.out.alloc _).trans0 m5⟩
end Go.Proofs.YtbbobpjcbnfpfaaDoor
