/- TreeGrowths. Conditions: the tables lie in their variables; at most 2^20 bytes and leaves. -/
import Derived.Test.YtbbobpjcbnfpfaaDoorTrLoan
import Derived.Test.YtbbobpjcbnfpfaaDoorTrRefP
import Derived.Test.YtbbobpjcbnfpfaaDoorTrOwned
import Derived.Test.YtbbobpjcbnfpfaaDoorTrOf32
namespace Go.Proofs.YtbbobpjcbnfpfaaDoor
open Go.RowKit
attribute [local go_sem high] one8 st8 cm8 b_and8 b_and8r b_and8l b_or8 b_or8r b_or8l b_xor8 b_xor8r b_xor8l b_andNot8 b_andNot8r b_andNot8l b_add8 b_add8r b_add8l b_sub8 b_sub8r b_sub8l b_mul8 b_mul8r b_mul8l b_eql8 b_eql8r b_eql8l b_neq8 b_neq8r b_neq8l b_lss8 b_lss8r b_lss8l b_leq8 b_leq8r b_leq8l b_gtr8 b_gtr8r b_gtr8l b_geq8 b_geq8r b_geq8l b_quo8r b_rem8r b_shl8r b_shr8r b_shl8l b_shr8l u_xor8 g_eql8 g_neq8 g_eql8' g_neq8' one32 st32 cm32 b_and32 b_and32r b_and32l b_or32 b_or32r b_or32l b_xor32 b_xor32r b_xor32l b_andNot32 b_andNot32r b_andNot32l b_add32 b_add32r b_add32l b_sub32 b_sub32r b_sub32l b_mul32 b_mul32r b_mul32l b_eql32 b_eql32r b_eql32l b_neq32 b_neq32r b_neq32l b_lss32 b_lss32r b_lss32l b_leq32 b_leq32r b_leq32l b_gtr32 b_gtr32r b_gtr32l b_geq32 b_geq32r b_geq32l b_quo32r b_rem32r b_shl32r b_shr32r b_shl32l b_shr32l u_xor32 g_eql32 g_neq32 g_eql32' g_neq32' one64 st64 cm64 b_and64 b_and64r b_and64l b_or64 b_or64r b_or64l b_xor64 b_xor64r b_xor64l b_andNot64 b_andNot64r b_andNot64l b_add64 b_add64r b_add64l b_sub64 b_sub64r b_sub64l b_mul64 b_mul64r b_mul64l b_eql64 b_eql64r b_eql64l b_neq64 b_neq64r b_neq64l b_lss64 b_lss64r b_lss64l b_leq64 b_leq64r b_leq64l b_gtr64 b_gtr64r b_gtr64l b_geq64 b_geq64r b_geq64l b_quo64r b_rem64r b_shl64r b_shr64r b_shl64l b_shr64l u_xor64 g_eql64 g_neq64 g_eql64' g_neq64' c_u8_u8 c_u8_u32 c_u8_u64 c_i_u8 c_u32_u8 c_u32_u32 c_u32_u64 c_i_u32 c_u64_u8 c_u64_u32 c_u64_u64 c_i_u64 c_u8_i c_u32_i
attribute [local go_sem ↓] ce8 ce32 ce64
attribute [local go_sem ↓] sliced_slp loadO26 storeO26
set_option maxRecDepth 100000 in
set_option maxHeartbeats 4000000 in
theorem growths_law {hf : Bs → Bs} (pp : Option Addr) (cp : Nat) (xs : List SlR) (i : Int) (w : World) (hr : Rd SlR.v w pp cp xs) (hx : ∀ x ∈ xs, Rd V8 w x.p x.cap x.d) (ht : total xs ≤ 1048576) (hl : xs.length ≤ 1048576) (_hi : -9223372036854775808 ≤ i ∧ i ≤ 9223372036854775807) (H : Hs hf w) (R : Rf w) :
    Calls Tryd.prog 8 #[.slice pp xs.length cp, .int .i64 i] w fun e w' => e = .returned (.bool true) ∧ Mod [] w w' := by
  have HH := Lib.hid H
  have HRf := Lib.hid R
  have HI := Lib.hid (show Lv w pp cp xs from ⟨hr, hx, fun x hx => by have := total_mem xs x hx; omega, by omega⟩)
  obtain ⟨nl, hnl⟩ : ∃ nl, nl = xs.length := ⟨_, rfl⟩
  rw [← hnl] at hl ⊢
  have HNL := Lib.hid hnl
  obtain ⟨L, hL⟩ : ∃ L, L = growOf hf (ds xs) i := ⟨_, rfl⟩
  obtain ⟨L2, hL2⟩ : ∃ L2, L2 = growOf hf ((ds xs).map otherOf) i := ⟨_, rfl⟩
  obtain ⟨E, hE⟩ : ∃ E, E = growE nl i := ⟨_, rfl⟩
  have HL32 := Lib.hid (show All32 L from by rw [hL]; exact growOf_32 HH.out.len _ _)
  have HM32 := Lib.hid (show All32 L2 from by rw [hL2]; exact growOf_32 HH.out.len _ _)
  have hLn : L.length ≤ 1073741824 := by rw [hL]; exact growOf_len _ _ (by simp [ds]; omega)
  have hMn : L2.length ≤ 1073741824 := by rw [hL2]; exact growOf_len _ _ (by simp [ds]; omega)
  have HLe := Lib.hid hL
  have HMe := Lib.hid hL2
  have HEe := Lib.hid hE
  have M := Lib.hid (Mod.refl [] w)
  clear H R hr hx ht hnl hL hL2 hE _hi
  go_enter Tryd.func8, Tryd.ntmps8
  go_wp2_with fail
  have hcl := awake_any w HH.out
  refine hcl.mono ?_
  rintro e w1 ⟨rfl, mm⟩
  clear hcl
  have M' := Lib.hid (M.out.trans0 mm)
  clear M 
  have M := Lib.hid M'.out
  clear M' 
  clear mm
  go_wp2_with fail
  refine (some_any pp nl cp (by omega) _).mono ?_
  rintro e w2 ⟨rfl, rfl⟩
  go_wp2_with fail
  have hln := lend_any xs pp cp nl _ HNL.out (HI.out.mod0 M.out) (by omega)
  have HBW := Lib.hid M.out.size
  refine hln.mono ?_
  rintro e w3 ⟨m, po, co, ys, rfl, hyd, hln2, mm⟩
  clear hln
  unfold loanV
  have hyl : ys.length = nl := by
    have h1 := congrArg List.length hyd
    have h2 := HNL.out
    simp [ds] at *; omega
  have HYL := Lib.hid hyl
  have HYD := Lib.hid hyd
  have HL0 := Lib.hid hln2
  have ma := mm.alloc (.cells #[.slice (some ⟨m, 0, none⟩) (nl + 9) (nl + 9), .slice po nl co, .int .i64 nl] 35)
  have hxx := hp_new w3 (.cells #[.slice (some ⟨m, 0, none⟩) (nl + 9) (nl + 9), .slice po nl co, .int .i64 nl] 35) _ rfl
  have HX := Lib.hid hxx
  have HL := Lib.hid (HL0.out.mod0 ((Mod.refl [] w3).alloc (.cells #[.slice (some ⟨m, 0, none⟩) (nl + 9) (nl + 9), .slice po nl co, .int .i64 nl] 35)))
  clear hyl hyd hln2 HL0 hxx
  have M' := Lib.hid (M.out.trans0 ma)
  clear M 
  have M := Lib.hid M'.out
  clear M' 
  clear mm ma
  have x0 := cell_blk HX.out 0
  have x1 := cell_blk HX.out 1
  have x2 := cell_blk HX.out 2
  simp only [List.getElem?_toArray, List.getElem?_cons_zero, List.getElem?_cons_succ] at x0 x1 x2
  go_wp2_with fail
  have hcl := Growth_any (hf := hf) ys (some ⟨m, 0, none⟩) (nl + 9) nl i _ HYL.out.symm (HL.out.lv (by rw [HYD.out]; exact HI.out.ds_small) (by rw [HYL.out]; omega) (by rw [HYL.out]; omega)) (HH.out.mod0 M.out)
  unfold DgErr at hcl
  rw [HYD.out, ← HLe.out, ← HEe.out] at hcl
  have HSA := Lib.hid (show w.heap.size ≤ _ from M.out.size)
  refine hcl.mono ?_
  rintro e w4 ⟨vA, rfl, ho, mm⟩
  clear hcl
  clear x0 x1 x2
  have HFA := Lib.hid (fun g hg => ho.row g hg)
  have HGA := Lib.hid (fun g hg => ho.lt g hg)
  have HA := Lib.hid (ho.mono (B' := w.heap.size) HSA.out)
  obtain ⟨pA, cA, rfl, _⟩ := ho.rd
  clear ho
  have HX' := Lib.hid (mm.get0 HX.out)
  have HL' := Lib.hid (HL.out.mod0 mm)
  have M' := Lib.hid (M.out.trans0 mm)
  clear M HX HL
  have HX := Lib.hid HX'.out
  have HL := Lib.hid HL'.out
  have M := Lib.hid M'.out
  clear M' HX' HL'
  clear mm
  have x0 := cell_blk HX.out 0
  have x1 := cell_blk HX.out 1
  have x2 := cell_blk HX.out 2
  simp only [List.getElem?_toArray, List.getElem?_cons_zero, List.getElem?_cons_succ] at x0 x1 x2
  go_wp2_with fail
  have hcl := back_any xs pp cp nl _ HNL.out (HI.out.mod0 M.out) (by omega) _ m co po ys HL.out HYD.out
  unfold loanV at hcl
  refine hcl.mono ?_
  rintro e w5 ⟨rfl, mm⟩
  clear hcl
  clear x0 x1 x2
  have HX' := Lib.hid (mm.get0 HX.out)
  have HL' := Lib.hid (HL.out.mod0 mm)
  have HA' := Lib.hid (HA.out.mod0 mm)
  have M' := Lib.hid (M.out.trans0 mm)
  clear M HX HL HA
  have HX := Lib.hid HX'.out
  have HL := Lib.hid HL'.out
  have HA := Lib.hid HA'.out
  have M := Lib.hid M'.out
  clear M' HX' HL' HA'
  clear mm
  have x0 := cell_blk HX.out 0
  have x1 := cell_blk HX.out 1
  have x2 := cell_blk HX.out 2
  simp only [List.getElem?_toArray, List.getElem?_cons_zero, List.getElem?_cons_succ] at x0 x1 x2
  go_wp2_with fail
  have hcl := rGrowth_any (hf := hf) xs pp cp nl i _ HNL.out (HI.out.mod0 M.out) (HH.out.mod0 M.out) (HRf.out.mod0 M.out)
  unfold DgErr at hcl
  rw [← HLe.out, ← HEe.out] at hcl
  have HSW := Lib.hid (show w.heap.size ≤ _ from M.out.size)
  refine hcl.mono ?_
  rintro e w6 ⟨vW, rfl, ho, mm⟩
  clear hcl
  clear x0 x1 x2
  have HFW := Lib.hid (fun g hg => ho.row g hg)
  have HGW := Lib.hid (fun g hg => ho.lt g hg)
  have HW := Lib.hid (ho.mono (B' := w.heap.size) HSW.out)
  obtain ⟨pW, cW, rfl, _⟩ := ho.rd
  clear ho
  have HX' := Lib.hid (mm.get0 HX.out)
  have HL' := Lib.hid (HL.out.mod0 mm)
  have HA' := Lib.hid (HA.out.mod0 mm)
  have M' := Lib.hid (M.out.trans0 mm)
  clear M HX HL HA
  have HX := Lib.hid HX'.out
  have HL := Lib.hid HL'.out
  have HA := Lib.hid HA'.out
  have M := Lib.hid M'.out
  clear M' HX' HL' HA'
  clear mm
  have x0 := cell_blk HX.out 0
  have x1 := cell_blk HX.out 1
  have x2 := cell_blk HX.out 2
  simp only [List.getElem?_toArray, List.getElem?_cons_zero, List.getElem?_cons_succ] at x0 x1 x2
  go_wp2_with fail
  have hEE : (E != E) = false := by simp
  have hcl := same_any L L pA pW cA cW L.length L.length _ rfl rfl (own_rdD HA.out).2 (own_rdD HW.out).2 HL32.out HL32.out (by omega) (by omega)
  rw [beq_self_eq_true] at hcl
  refine hcl.mono ?_
  rintro e w7 ⟨rfl, mm⟩
  clear hcl
  clear x0 x1 x2
  have HX' := Lib.hid (mm.get0 HX.out)
  have HL' := Lib.hid (HL.out.mod0 mm)
  have HA' := Lib.hid (HA.out.mod0 mm)
  have HW' := Lib.hid (HW.out.mod0 mm)
  have M' := Lib.hid (M.out.trans0 mm)
  clear M HX HL HA HW
  have HX := Lib.hid HX'.out
  have HL := Lib.hid HL'.out
  have HA := Lib.hid HA'.out
  have HW := Lib.hid HW'.out
  have M := Lib.hid M'.out
  clear M' HX' HL' HA' HW'
  clear mm
  have x0 := cell_blk HX.out 0
  have x1 := cell_blk HX.out 1
  have x2 := cell_blk HX.out 2
  simp only [List.getElem?_toArray, List.getElem?_cons_zero, List.getElem?_cons_succ] at x0 x1 x2
  go_wp2_with fail
  have hcl := Growth_any (hf := hf) ys (some ⟨m, 0, none⟩) (nl + 9) nl i _ HYL.out.symm (HL.out.lv (by rw [HYD.out]; exact HI.out.ds_small) (by rw [HYL.out]; omega) (by rw [HYL.out]; omega)) (HH.out.mod0 M.out)
  unfold DgErr at hcl
  rw [HYD.out, ← HLe.out, ← HEe.out] at hcl
  have HSB := Lib.hid (show w.heap.size ≤ _ from M.out.size)
  have HSB' := Lib.hid (fun g hg => HA.out.lt g hg)
  refine hcl.mono ?_
  rintro e w8 ⟨vB, rfl, ho, mm⟩
  clear hcl
  clear x0 x1 x2
  have HFB := Lib.hid (fun g hg => ho.row g hg)
  have HGB := Lib.hid (fun g hg => ho.lt g hg)
  have HB := Lib.hid (ho.mono (B' := w.heap.size) HSB.out)
  obtain ⟨pB, cB, rfl, _⟩ := ho.rd
  clear ho
  have HX' := Lib.hid (mm.get0 HX.out)
  have HL' := Lib.hid (HL.out.mod0 mm)
  have HA' := Lib.hid (HA.out.mod0 mm)
  have HW' := Lib.hid (HW.out.mod0 mm)
  have M' := Lib.hid (M.out.trans0 mm)
  clear M HX HL HA HW
  have HX := Lib.hid HX'.out
  have HL := Lib.hid HL'.out
  have HA := Lib.hid HA'.out
  have HW := Lib.hid HW'.out
  have M := Lib.hid M'.out
  clear M' HX' HL' HA' HW'
  clear mm
  have x0 := cell_blk HX.out 0
  have x1 := cell_blk HX.out 1
  have x2 := cell_blk HX.out 2
  simp only [List.getElem?_toArray, List.getElem?_cons_zero, List.getElem?_cons_succ] at x0 x1 x2
  go_wp2_with fail
  have hcl := same_any L L pB pW cB cW L.length L.length _ rfl rfl (own_rdD HB.out).2 (own_rdD HW.out).2 HL32.out HL32.out (by omega) (by omega)
  rw [beq_self_eq_true] at hcl
  refine hcl.mono ?_
  rintro e w9 ⟨rfl, mm⟩
  clear hcl
  clear x0 x1 x2
  have HX' := Lib.hid (mm.get0 HX.out)
  have HL' := Lib.hid (HL.out.mod0 mm)
  have HA' := Lib.hid (HA.out.mod0 mm)
  have HW' := Lib.hid (HW.out.mod0 mm)
  have HB' := Lib.hid (HB.out.mod0 mm)
  have M' := Lib.hid (M.out.trans0 mm)
  clear M HX HL HA HW HB
  have HX := Lib.hid HX'.out
  have HL := Lib.hid HL'.out
  have HA := Lib.hid HA'.out
  have HW := Lib.hid HW'.out
  have HB := Lib.hid HB'.out
  have M := Lib.hid M'.out
  clear M' HX' HL' HA' HW' HB'
  clear mm
  have x0 := cell_blk HX.out 0
  have x1 := cell_blk HX.out 1
  have x2 := cell_blk HX.out 2
  simp only [List.getElem?_toArray, List.getElem?_cons_zero, List.getElem?_cons_succ] at x0 x1 x2
  go_wp2_with fail
  have hcl := same_any L L pA pW cA cW L.length L.length _ rfl rfl (own_rdD HA.out).2 (own_rdD HW.out).2 HL32.out HL32.out (by omega) (by omega)
  rw [beq_self_eq_true] at hcl
  refine hcl.mono ?_
  rintro e w10 ⟨rfl, mm⟩
  clear hcl
  clear x0 x1 x2
  have HX' := Lib.hid (mm.get0 HX.out)
  have HL' := Lib.hid (HL.out.mod0 mm)
  have HA' := Lib.hid (HA.out.mod0 mm)
  have HW' := Lib.hid (HW.out.mod0 mm)
  have HB' := Lib.hid (HB.out.mod0 mm)
  have M' := Lib.hid (M.out.trans0 mm)
  clear M HX HL HA HW HB
  have HX := Lib.hid HX'.out
  have HL := Lib.hid HL'.out
  have HA := Lib.hid HA'.out
  have HW := Lib.hid HW'.out
  have HB := Lib.hid HB'.out
  have M := Lib.hid M'.out
  clear M' HX' HL' HA' HW' HB'
  clear mm
  have x0 := cell_blk HX.out 0
  have x1 := cell_blk HX.out 1
  have x2 := cell_blk HX.out 2
  simp only [List.getElem?_toArray, List.getElem?_cons_zero, List.getElem?_cons_succ] at x0 x1 x2
  have HOT := Lib.hid (fun (W : World) (k : Mod [] w10 W) => other_any xs pp cp nl W HNL.out (HI.out.mod0 (M.out.trans0 k)))
  have HWR := Lib.hid (fun (g : Nat) (zs : List SlR) (W : World) (k : Mod [] w10 W) (hz : ds zs = (ds xs).map otherOf) (ht : Twin W w10.drew.heap.size g zs) => write_oth (ds xs) nl hl _ m co po ys HYD.out HYL.out HI.out.ds_small HL.out g zs W k hz ht)
  go_wp2_with fail
  go_region_law (first
    | (go_simp; go_at_call 23; with_reducible refine (HOT.out _ (Mod.refl [] w10).drew).mono ?_
       rintro _ w11 ⟨g, zs, rfl, hzd, htw, mo⟩
       have mo2 := (Mod.refl [] w10).drew.trans0 mo
       have y0 := cell_mod0 mo2 x0
       have y1 := cell_mod0 mo2 x1
       have y2 := cell_mod0 mo2 x2)
    | (go_simp; go_at_call 22; with_reducible refine (HWR.out g zs w11 mo2 hzd htw).mono ?_
       rintro _ w12 ⟨rfl, hwr⟩))
  all_goals
    have hh10 := HL.out.held.mod0 mo2
    have hzl : zs.length = nl := by
      have h1 := congrArg List.length hzd
      have h2 := HNL.out
      simp [ds] at *; omega
    have HX' := Lib.hid (hwr.md.get (mo2.get0 HX.out) (not_blk hh10 (mo2.get0 HX.out) (by decide)))
    have HA' := Lib.hid ((HA.out.mod0 mo2).mod hwr.md (fun b hb hv => by
      obtain ⟨C, hC⟩ := (HA.out.mod0 mo2).type b hv
      exact not_blk hh10 hC (by decide) hb))
    have HW' := Lib.hid ((HW.out.mod0 mo2).mod hwr.md (fun b hb hv => by
      obtain ⟨C, hC⟩ := (HW.out.mod0 mo2).type b hv
      exact not_blk hh10 hC (by decide) hb))
    have HB' := Lib.hid ((HB.out.mod0 mo2).mod hwr.md (fun b hb hv => by
      obtain ⟨C, hC⟩ := (HB.out.mod0 mo2).type b hv
      exact not_blk hh10 hC (by decide) hb))
    have M' := Lib.hid ((M.out.trans0 mo2).trans hwr.md (fun b hb => .inr (by have h1 := (held_blk hh10 hb).1; have h2 := HBW.out; omega)))
    have HWT := Lib.hid hwr
    have HZD := Lib.hid hzd
    have HZL := Lib.hid hzl
    have HPL := Lib.hid (show (putD ys zs).length = nl from by unfold putD; have := HYL.out; simp; omega)
    have HPD := Lib.hid (show ds (putD ys zs) = (ds xs).map otherOf from (putD_ds (by rw [HYL.out, hzl])).trans hzd)
    clear hh10 hzl hwr hzd htw mo mo2 y0 y1 y2 x0 x1 x2 HOT HWR M HX HL HA HW HB
    have M := Lib.hid M'.out
    have HX := Lib.hid HX'.out
    have HA := Lib.hid HA'.out
    have HW := Lib.hid HW'.out
    have HB := Lib.hid HB'.out
    clear M' HX' HA' HW' HB'
    have x0 := cell_blk HX.out 0
    have x1 := cell_blk HX.out 1
    have x2 := cell_blk HX.out 2
    simp only [List.getElem?_toArray, List.getElem?_cons_zero, List.getElem?_cons_succ] at x0 x1 x2
    go_wp2_with fail
    have hcl := Growth_any (hf := hf) (putD ys zs) (some ⟨m, 0, none⟩) (nl + 9) nl i _ HPL.out.symm (HWT.out.lv (by rw [HPD.out]; exact oth_small HI.out.ds_small) (by rw [HPL.out]; omega) (by rw [HPL.out]; omega)) (HH.out.mod0 M.out)
    unfold DgErr at hcl
    rw [HPD.out, ← HMe.out, ← HEe.out] at hcl
    have HSC := Lib.hid (show w.heap.size ≤ _ from M.out.size)
    have HSC' := Lib.hid (fun g hg => HA.out.lt g hg)
    have HSC2 := Lib.hid (fun g hg => HB.out.lt g hg)
    refine hcl.mono ?_
    rintro e w13 ⟨vC, rfl, ho, mm⟩
    clear hcl
    clear x0 x1 x2
    have HFC := Lib.hid (fun g hg => ho.row g hg)
    have HGC := Lib.hid (fun g hg => ho.lt g hg)
    have HC := Lib.hid (ho.mono (B' := w.heap.size) HSC.out)
    obtain ⟨pC, cC, rfl, _⟩ := ho.rd
    clear ho
    have HX' := Lib.hid (mm.get0 HX.out)
    have HA' := Lib.hid (HA.out.mod0 mm)
    have HW' := Lib.hid (HW.out.mod0 mm)
    have HB' := Lib.hid (HB.out.mod0 mm)
    have M' := Lib.hid (M.out.trans0 mm)
    clear M HX HA HW HB
    have HX := Lib.hid HX'.out
    have HA := Lib.hid HA'.out
    have HW := Lib.hid HW'.out
    have HB := Lib.hid HB'.out
    have M := Lib.hid M'.out
    clear M' HX' HA' HW' HB'
    clear mm
    have x0 := cell_blk HX.out 0
    have x1 := cell_blk HX.out 1
    have x2 := cell_blk HX.out 2
    simp only [List.getElem?_toArray, List.getElem?_cons_zero, List.getElem?_cons_succ] at x0 x1 x2
    go_wp2_with fail
    refine (other_any xs pp cp nl _ HNL.out (HI.out.mod0 M.out)).mono ?_
    rintro e w14 ⟨g2', zs2, rfl, hzd2, htw2, mm⟩
    have hzl2 : zs2.length = nl := by
      have h1 := congrArg List.length hzd2
      have h2 := HNL.out
      simp [ds] at *; omega
    have HT2 := Lib.hid htw2
    have HZ2 := Lib.hid hzd2
    have HZL2 := Lib.hid hzl2
    clear htw2 hzd2 hzl2 x0 x1 x2
    have HX' := Lib.hid (mm.get0 HX.out)
    have HA' := Lib.hid (HA.out.mod0 mm)
    have HW' := Lib.hid (HW.out.mod0 mm)
    have HB' := Lib.hid (HB.out.mod0 mm)
    have HC' := Lib.hid (HC.out.mod0 mm)
    have M' := Lib.hid (M.out.trans0 mm)
    clear M HX HA HW HB HC
    have HX := Lib.hid HX'.out
    have HA := Lib.hid HA'.out
    have HW := Lib.hid HW'.out
    have HB := Lib.hid HB'.out
    have HC := Lib.hid HC'.out
    have M := Lib.hid M'.out
    clear M' HX' HA' HW' HB' HC'
    clear mm
    have x0 := cell_blk HX.out 0
    have x1 := cell_blk HX.out 1
    have x2 := cell_blk HX.out 2
    simp only [List.getElem?_toArray, List.getElem?_cons_zero, List.getElem?_cons_succ] at x0 x1 x2
    go_wp2_with fail
    have hcl := rGrowth_any (hf := hf) zs2 (some ⟨g2', 0, none⟩) nl nl i _ HZL2.out.symm (HT2.out.lv (fun z hz => oth_small HI.out.ds_small _ (by rw [← HZ2.out]; exact List.mem_map.2 ⟨z, hz, rfl⟩)) (by rw [HZL2.out]; omega) (by rw [HZL2.out]; omega)) (HH.out.mod0 M.out) (HRf.out.mod0 M.out)
    unfold DgErr at hcl
    rw [HZ2.out, ← HMe.out, ← HEe.out] at hcl
    have HST := Lib.hid (show w.heap.size ≤ _ from M.out.size)
    refine hcl.mono ?_
    rintro e w15 ⟨vT, rfl, ho, mm⟩
    clear hcl
    clear x0 x1 x2
    have HFT := Lib.hid (fun g hg => ho.row g hg)
    have HGT := Lib.hid (fun g hg => ho.lt g hg)
    have HT := Lib.hid (ho.mono (B' := w.heap.size) HST.out)
    obtain ⟨pT, cT, rfl, _⟩ := ho.rd
    clear ho
    have HX' := Lib.hid (mm.get0 HX.out)
    have HA' := Lib.hid (HA.out.mod0 mm)
    have HW' := Lib.hid (HW.out.mod0 mm)
    have HB' := Lib.hid (HB.out.mod0 mm)
    have HC' := Lib.hid (HC.out.mod0 mm)
    have M' := Lib.hid (M.out.trans0 mm)
    clear M HX HA HW HB HC
    have HX := Lib.hid HX'.out
    have HA := Lib.hid HA'.out
    have HW := Lib.hid HW'.out
    have HB := Lib.hid HB'.out
    have HC := Lib.hid HC'.out
    have M := Lib.hid M'.out
    clear M' HX' HA' HW' HB' HC'
    clear mm
    have x0 := cell_blk HX.out 0
    have x1 := cell_blk HX.out 1
    have x2 := cell_blk HX.out 2
    simp only [List.getElem?_toArray, List.getElem?_cons_zero, List.getElem?_cons_succ] at x0 x1 x2
    go_wp2_with fail
    have hcl := same_any L2 L2 pC pT cC cT L2.length L2.length _ rfl rfl (own_rdD HC.out).2 (own_rdD HT.out).2 HM32.out HM32.out (by omega) (by omega)
    rw [beq_self_eq_true] at hcl
    refine hcl.mono ?_
    rintro e w16 ⟨rfl, mm⟩
    clear hcl
    clear x0 x1 x2
    have HX' := Lib.hid (mm.get0 HX.out)
    have HA' := Lib.hid (HA.out.mod0 mm)
    have HW' := Lib.hid (HW.out.mod0 mm)
    have HB' := Lib.hid (HB.out.mod0 mm)
    have HC' := Lib.hid (HC.out.mod0 mm)
    have HT' := Lib.hid (HT.out.mod0 mm)
    have M' := Lib.hid (M.out.trans0 mm)
    clear M HX HA HW HB HC HT
    have HX := Lib.hid HX'.out
    have HA := Lib.hid HA'.out
    have HW := Lib.hid HW'.out
    have HB := Lib.hid HB'.out
    have HC := Lib.hid HC'.out
    have HT := Lib.hid HT'.out
    have M := Lib.hid M'.out
    clear M' HX' HA' HW' HB' HC' HT'
    clear mm
    have x0 := cell_blk HX.out 0
    have x1 := cell_blk HX.out 1
    have x2 := cell_blk HX.out 2
    simp only [List.getElem?_toArray, List.getElem?_cons_zero, List.getElem?_cons_succ] at x0 x1 x2
    go_wp2_with fail
    have hcl := same_any L L pB pW cB cW L.length L.length _ rfl rfl (own_rdD HB.out).2 (own_rdD HW.out).2 HL32.out HL32.out (by omega) (by omega)
    rw [beq_self_eq_true] at hcl
    refine hcl.mono ?_
    rintro e w17 ⟨rfl, mm⟩
    clear hcl
    clear x0 x1 x2
    have HX' := Lib.hid (mm.get0 HX.out)
    have HA' := Lib.hid (HA.out.mod0 mm)
    have HW' := Lib.hid (HW.out.mod0 mm)
    have HB' := Lib.hid (HB.out.mod0 mm)
    have HC' := Lib.hid (HC.out.mod0 mm)
    have HT' := Lib.hid (HT.out.mod0 mm)
    have M' := Lib.hid (M.out.trans0 mm)
    clear M HX HA HW HB HC HT
    have HX := Lib.hid HX'.out
    have HA := Lib.hid HA'.out
    have HW := Lib.hid HW'.out
    have HB := Lib.hid HB'.out
    have HC := Lib.hid HC'.out
    have HT := Lib.hid HT'.out
    have M := Lib.hid M'.out
    clear M' HX' HA' HW' HB' HC' HT'
    clear mm
    have x0 := cell_blk HX.out 0
    have x1 := cell_blk HX.out 1
    have x2 := cell_blk HX.out 2
    simp only [List.getElem?_toArray, List.getElem?_cons_zero, List.getElem?_cons_succ] at x0 x1 x2
    go_wp2_with fail
    have hcl := same_any L L pA pW cA cW L.length L.length _ rfl rfl (own_rdD HA.out).2 (own_rdD HW.out).2 HL32.out HL32.out (by omega) (by omega)
    rw [beq_self_eq_true] at hcl
    refine hcl.mono ?_
    rintro e w18 ⟨rfl, mm⟩
    clear hcl
    clear x0 x1 x2
    have HX' := Lib.hid (mm.get0 HX.out)
    have HA' := Lib.hid (HA.out.mod0 mm)
    have HW' := Lib.hid (HW.out.mod0 mm)
    have HB' := Lib.hid (HB.out.mod0 mm)
    have HC' := Lib.hid (HC.out.mod0 mm)
    have HT' := Lib.hid (HT.out.mod0 mm)
    have M' := Lib.hid (M.out.trans0 mm)
    clear M HX HA HW HB HC HT
    have HX := Lib.hid HX'.out
    have HA := Lib.hid HA'.out
    have HW := Lib.hid HW'.out
    have HB := Lib.hid HB'.out
    have HC := Lib.hid HC'.out
    have HT := Lib.hid HT'.out
    have M := Lib.hid M'.out
    clear M' HX' HA' HW' HB' HC' HT'
    clear mm
    have x0 := cell_blk HX.out 0
    have x1 := cell_blk HX.out 1
    have x2 := cell_blk HX.out 2
    simp only [List.getElem?_toArray, List.getElem?_cons_zero, List.getElem?_cons_succ] at x0 x1 x2
    go_wp2_with fail
    have hab : ∀ g, (Value.slice pA L.length cA).ownBlock = some g → (Value.slice pB L.length cB).ownBlock ≠ some g := fun g h1 h2 => by have q1 := HSB'.out g h1; have q2 := HFB.out g h2; omega
    have hac : ∀ g, (Value.slice pC L2.length cC).ownBlock = some g → (Value.slice pA L.length cA).ownBlock ≠ some g ∧ (Value.slice pB L.length cB).ownBlock ≠ some g := fun g h1 => ⟨fun h2 => by have q1 := HSC'.out g h2; have q2 := HFC.out g h1; omega, fun h2 => by have q1 := HSC2.out g h2; have q2 := HFC.out g h1; omega⟩
    have hcl := ownedThree_any (.slice pA L.length cA) (.slice pB L.length cB) (.slice pC L2.length cC) L L L2 w.heap.size _ HA.out HB.out HC.out hab hac M.out.size hLn hLn hMn
    refine hcl.mono ?_
    rintro e w19 ⟨rfl, mm⟩
    have HEND := Lib.hid (M.out.trans mm (fun x hx => .inr (by
      rcases List.mem_append.1 hx with hx | hx
      · rcases List.mem_append.1 hx with hx | hx
        · exact HA.out.row x (mem_ob hx)
        · exact HB.out.row x (mem_ob hx)
      · exact HC.out.row x (mem_ob hx))))
    clear hcl mm hab hac x0 x1 x2
    go_wp2_with fail
    go_ret
    exact ⟨rfl, HEND.out⟩
end Go.Proofs.YtbbobpjcbnfpfaaDoor
