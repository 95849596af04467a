/- The program's log: Root, Add. Conditions: as TrLogM. -/
import Derived.Test.YtbbobpjcbnfpfaaDoorTrLogM
namespace Go.Proofs.YtbbobpjcbnfpfaaDoor
open Go.RowKit
attribute [local go_sem high] one8 st8 cm8 b_and8 b_and8r b_and8l b_or8 b_or8r b_or8l b_xor8 b_xor8r b_xor8l b_andNot8 b_andNot8r b_andNot8l b_add8 b_add8r b_add8l b_sub8 b_sub8r b_sub8l b_mul8 b_mul8r b_mul8l b_eql8 b_eql8r b_eql8l b_neq8 b_neq8r b_neq8l b_lss8 b_lss8r b_lss8l b_leq8 b_leq8r b_leq8l b_gtr8 b_gtr8r b_gtr8l b_geq8 b_geq8r b_geq8l b_quo8r b_rem8r b_shl8r b_shr8r b_shl8l b_shr8l u_xor8 g_eql8 g_neq8 g_eql8' g_neq8' one32 st32 cm32 b_and32 b_and32r b_and32l b_or32 b_or32r b_or32l b_xor32 b_xor32r b_xor32l b_andNot32 b_andNot32r b_andNot32l b_add32 b_add32r b_add32l b_sub32 b_sub32r b_sub32l b_mul32 b_mul32r b_mul32l b_eql32 b_eql32r b_eql32l b_neq32 b_neq32r b_neq32l b_lss32 b_lss32r b_lss32l b_leq32 b_leq32r b_leq32l b_gtr32 b_gtr32r b_gtr32l b_geq32 b_geq32r b_geq32l b_quo32r b_rem32r b_shl32r b_shr32r b_shl32l b_shr32l u_xor32 g_eql32 g_neq32 g_eql32' g_neq32' one64 st64 cm64 b_and64 b_and64r b_and64l b_or64 b_or64r b_or64l b_xor64 b_xor64r b_xor64l b_andNot64 b_andNot64r b_andNot64l b_add64 b_add64r b_add64l b_sub64 b_sub64r b_sub64l b_mul64 b_mul64r b_mul64l b_eql64 b_eql64r b_eql64l b_neq64 b_neq64r b_neq64l b_lss64 b_lss64r b_lss64l b_leq64 b_leq64r b_leq64l b_gtr64 b_gtr64r b_gtr64l b_geq64 b_geq64r b_geq64l b_quo64r b_rem64r b_shl64r b_shr64r b_shl64l b_shr64l u_xor64 g_eql64 g_neq64 g_eql64' g_neq64' c_u8_u8 c_u8_u32 c_u8_u64 c_i_u8 c_u32_u8 c_u32_u32 c_u32_u64 c_i_u32 c_u64_u8 c_u64_u32 c_u64_u64 c_i_u64 c_u8_i c_u32_i
attribute [local go_sem ↓] ce8 ce32 ce64
attribute [local go_sem ↓] sliced_slp loadO26 storeO26 buildO24 buildSlO42
set_option maxRecDepth 100000 in
theorem lroot_nil {hf : Bs → Bs} (B g size : Nat) (v : Value) (w : World) (h : IsLog w B g size v []) (H : Hs hf w) :
    Calls Tryd.prog 52 #[.pointer (some ⟨g, 0, none⟩)] w fun e w' => e = .returned (dv (hf [])) ∧ Mod [] w w' := by
  have c1 := fun o => (h.mod0 ((Mod.refl [] w).alloc o)).c1
  obtain ⟨p, c, rfl, _, _⟩ := h.own.rd
  have HH := Lib.hid H
  have HL := Lib.hid (H.len [])
  clear h H
  go_enter Tryd.func52, Tryd.ntmps52
  go_wp2_with fail
  refine (none_any _ (HH.out.mod0 ((Mod.refl [] w).alloc _))).mono ?_
  rintro e w1 ⟨rfl, m1⟩
  have hS := storeDv (hf []) HL.out (m1.get0 (hp_new w _ _ rfl)) rfl
  go_wp2_with fail
  exact bodyPost_ret (results_dv rfl _ _ _ _ HL.out _ rfl (hp_setRow (m1.get0 (hp_new w _ _ rfl)))) rfl ⟨rfl, (((Mod.refl [] w).alloc _).trans0 m1).setRow (.inr (Nat.le_refl _)) _⟩
theorem storeNewD2 (w : World) (o : Obj) (d : Bs) (hd : d.length = 32) (Z : Array Value) (hZ : Z.size = 32) : (StoreO 24 (.pointer (some ⟨w.heap.size + 1, 0, none⟩)) (dv d)).run Tryd.prog ((w.alloc o).alloc (.cells Z 24)) = .ok () ((w.alloc o).alloc (.cells (d.map V8).toArray 24)) := by
  have h := storeDv (w := (w.alloc o).alloc (.cells Z 24)) d hd (hp_new (w.alloc o) _ (w.heap.size + 1) (by simp)) hZ
  rw [setRow_alloc_at _ _ _ _ _ (by simp)] at h
  exact h
set_option maxRecDepth 100000 in
theorem lroot_cons {hf : Bs → Bs} (B g size j : Nat) (v : Value) (q : List Bs) (x : Bs) (w : World) (h : IsLog w B g size v (q ++ [x])) (hj : j = q.length) (H : Hs hf w) :
    Calls Tryd.prog 52 #[.pointer (some ⟨g, 0, none⟩)] w fun e w' => e = .returned (dv (foldF hf x q.reverse)) ∧ Mod [] w w' := by
  have c1 := fun o => (h.mod0 ((Mod.refl [] w).alloc o)).c1
  have hl := h.len
  have ha := h.a32
  obtain ⟨p, c, rfl, hr, _⟩ := h.own.rd
  have HH := Lib.hid H
  have hx : (q ++ [x])[j]? = some x := by rw [hj]; simp
  have hx32 : x.length = 32 := ha x (by simp)
  obtain ⟨b, o, rfl, _⟩ := hr.elem dgc_len j x hx
  have hL := fun o => loadD_at (hr.mod0 ((Mod.refl [] w).alloc o)) x hx hx32
  rw [List.length_append, ← hj, List.length_singleton] at hl c1
  have HQ := Lib.hid hj
  have HX := Lib.hid hx
  have e0 : ((j : Int) + 1 == 0) = false := by simp; omega
  have hS := fun o Z hZ => storeNewD2 w o x hx32 Z hZ
  have HIS := Lib.hid h
  have HR := Lib.hid hr
  clear h H hr hj hx
  go_enter Tryd.func52, Tryd.ntmps52
  go_wp2_with fail
  have hz := zeros_length 32
  have HZ0 := Lib.hid (show (w.alloc (.cells ((zeros 32).map V8).toArray 24)).heap[w.heap.size]? = some (.cells ((zeros 32).map V8).toArray 24) from hp_new w _ _ rfl)
  have HM0 := Lib.hid (((Mod.refl [] w).alloc (.cells ((zeros 32).map V8).toArray 24)).alloc (.cells (x.map V8).toArray 24))
  go_loopw [24] (fun iv wr => ∃ (i : Nat) (d : Bs), i ≤ j ∧ iv = .int .i64 i ∧ d.length = 32 ∧ wr.heap[w.heap.size]? = some (.cells ((zeros 32).map V8).toArray 24 (0, 0)) ∧ wr.heap[w.heap.size + 1]? = some (.cells (d.map V8).toArray 24 (0, 0)) ∧ foldF hf d (q.reverse.drop i) = foldF hf x q.reverse ∧ Mod [] w wr) (fun iv _ => j - (intOf iv).toNat)
  case atStart => exact ⟨0, x, by omega, rfl, hx32, hp_old HZ0.out, hp_new _ _ _ (by simp), rfl, HM0.out⟩
  case round =>
    clear HZ0 HM0 hS hL c1
    obtain ⟨i, d, hi, rfl, hd32, h0, h1, hfold, hm⟩ := hrel
    have H0 := Lib.hid h0
    have H1 := Lib.hid h1
    have HF := Lib.hid hfold
    have HM := Lib.hid hm
    have HD := Lib.hid hd32
    have c1 := (HIS.out.mod0 hm).c1
    have hL2 := loadDv (w := wr.drew) d hd32 (hp_drew h1)
    clear h0 h1 hfold hm
    by_cases hlt : i < j
    · obtain ⟨r, hr⟩ : ∃ r, j = i + r + 1 := ⟨j - i - 1, by omega⟩
      have hql : q.length = j := HQ.out.symm
      obtain ⟨y, hy⟩ : ∃ y, q[r]? = some y := ⟨q[r]'(by omega), List.getElem?_eq_getElem _⟩
      have hyx : (q ++ [x])[r]? = some y := by rw [List.getElem?_append_left (by omega)]; exact hy
      have hy32 : y.length = 32 := ha y (List.mem_of_getElem? hyx)
      have hdrop : q.reverse.drop i = y :: q.reverse.drop (i + 1) := by
        rw [List.drop_eq_getElem_cons (by simp; omega)]
        congr 1
        rw [List.getElem_reverse, ← Option.some_inj, ← hy, ← List.getElem?_eq_getElem]
        congr 1
        omega
      have HDR := Lib.hid hdrop
      have HY := Lib.hid hy32
      have hL1 := loadD_at (w := wr.drew) (HR.out.mod0 HM.out.drew) (i := r) y hyx hy32
      have hlen : (q ++ [x]).length = j + 1 := by simp [hql]
      rw [hlen] at c1
      have hrc := HR.out.le
      have g1 : IntKind.i64.wrap ((j : Int) + 1 - 2) = (j : Int) - 1 := (wrI _ (by omega) (by omega)).trans (by omega)
      have g2 : IntKind.i64.wrap ((j : Int) - 1 - (i : Int)) = (r : Int) := (wrI _ (by omega) (by omega)).trans (by omega)
      have f1 : (0 : Int) ≤ (r : Int) := by omega
      have f2 : (r : Int) < ((j + 1 : Nat) : Int) := by omega
      have f3 : (r : Int) < (j : Int) + 1 := by omega
      have HRR := Lib.hid hr
      clear hr hql hy hyx hdrop hlen
      go_wp2_with fail
      go_region_law (go_simp; go_at_call 17; refine (node_any y d HY.out HD.out _ (HH.out.mod0 HM.out.drew)).mono ?_
                     rintro _ w6 ⟨rfl, m6⟩
                     have hS6 := storeDv (nodeH hf y d) (HH.out.len _) (m6.get0 (hp_drew H1.out)) (by simp [HD.out]))
      all_goals
        have HE0 := Lib.hid (hp_setRow_ne (cs := ((nodeH hf y d).map V8).toArray) (m6.get0 (hp_drew H0.out)) (show w.heap.size ≠ w.heap.size + 1 by omega))
        have HE1 := Lib.hid (hp_setRow (cs := ((nodeH hf y d).map V8).toArray) (m6.get0 (hp_drew H1.out)))
        have HEM := Lib.hid ((HM.out.drew.trans0 m6).setRow (g := w.heap.size + 1) (.inr (by omega)) ((nodeH hf y d).map V8).toArray)
        have HFE := Lib.hid (show foldF hf (nodeH hf y d) (q.reverse.drop (i + 1)) = foldF hf x q.reverse by
          rw [← HF.out, HDR.out]; rfl)
        have hlj : i + 1 ≤ j := by have := HRR.out; omega
        clear m6 hS6 hL1 hL2 c1 g1 g2 f1 f2 f3
        go_wp2_with fail
        go_roundw
        case rel => exact ⟨i + 1, nodeH hf y d, hlj, by go_num, HH.out.len _, HE0.out, HE1.out, HFE.out, HEM.out⟩
        case measure => simp [intOf]; omega
    · have hij : i = j := by omega
      have hfd : d = foldF hf x q.reverse := by
        have h := HF.out
        rw [List.drop_of_length_le (by rw [List.length_reverse]; have := HQ.out; omega)] at h
        exact h
      have hd : decide ((i : Int) < (j : Int)) = false := by simp; omega
      have hL3 := loadDv (w := wr) d HD.out H1.out
      have hS3 := storeDv (w := wr) d HD.out H0.out (by simp [zeros_length])
      have HFD := Lib.hid hfd
      clear hij hL2 hfd
      go_wp2_with fail
      exact bodyPost_ret (results_dv rfl _ _ _ _ HD.out _ rfl (hp_setRow H0.out)) rfl ⟨by rw [← HFD.out], HM.out.setRow (.inr (Nat.le_refl _)) _⟩
end Go.Proofs.YtbbobpjcbnfpfaaDoor
