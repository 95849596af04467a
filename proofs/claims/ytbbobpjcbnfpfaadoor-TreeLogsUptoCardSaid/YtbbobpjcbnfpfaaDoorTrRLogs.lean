/- The reference's log: Resume, Add, LogRoot. Conditions: as TrLogM; the reference's tables lie in their variables. -/
import Derived.Test.YtbbobpjcbnfpfaaDoorTrLogA
import Derived.Test.YtbbobpjcbnfpfaaDoorTrRef
namespace Go.Proofs.YtbbobpjcbnfpfaaDoor
open Go.RowKit
attribute [local go_sem high] one8 st8 cm8 b_and8 b_and8r b_and8l b_or8 b_or8r b_or8l b_xor8 b_xor8r b_xor8l b_andNot8 b_andNot8r b_andNot8l b_add8 b_add8r b_add8l b_sub8 b_sub8r b_sub8l b_mul8 b_mul8r b_mul8l b_eql8 b_eql8r b_eql8l b_neq8 b_neq8r b_neq8l b_lss8 b_lss8r b_lss8l b_leq8 b_leq8r b_leq8l b_gtr8 b_gtr8r b_gtr8l b_geq8 b_geq8r b_geq8l b_quo8r b_rem8r b_shl8r b_shr8r b_shl8l b_shr8l u_xor8 g_eql8 g_neq8 g_eql8' g_neq8' one32 st32 cm32 b_and32 b_and32r b_and32l b_or32 b_or32r b_or32l b_xor32 b_xor32r b_xor32l b_andNot32 b_andNot32r b_andNot32l b_add32 b_add32r b_add32l b_sub32 b_sub32r b_sub32l b_mul32 b_mul32r b_mul32l b_eql32 b_eql32r b_eql32l b_neq32 b_neq32r b_neq32l b_lss32 b_lss32r b_lss32l b_leq32 b_leq32r b_leq32l b_gtr32 b_gtr32r b_gtr32l b_geq32 b_geq32r b_geq32l b_quo32r b_rem32r b_shl32r b_shr32r b_shl32l b_shr32l u_xor32 g_eql32 g_neq32 g_eql32' g_neq32' one64 st64 cm64 b_and64 b_and64r b_and64l b_or64 b_or64r b_or64l b_xor64 b_xor64r b_xor64l b_andNot64 b_andNot64r b_andNot64l b_add64 b_add64r b_add64l b_sub64 b_sub64r b_sub64l b_mul64 b_mul64r b_mul64l b_eql64 b_eql64r b_eql64l b_neq64 b_neq64r b_neq64l b_lss64 b_lss64r b_lss64l b_leq64 b_leq64r b_leq64l b_gtr64 b_gtr64r b_gtr64l b_geq64 b_geq64r b_geq64l b_quo64r b_rem64r b_shl64r b_shr64r b_shl64l b_shr64l u_xor64 g_eql64 g_neq64 g_eql64' g_neq64' c_u8_u8 c_u8_u32 c_u8_u64 c_i_u8 c_u32_u8 c_u32_u32 c_u32_u64 c_i_u32 c_u64_u8 c_u64_u32 c_u64_u64 c_i_u64 c_u8_i c_u32_i
attribute [local go_sem ↓] ce8 ce32 ce64
attribute [local go_sem ↓] sliced_slp loadO26 storeO26 buildO24 buildSlO42
theorem infoLg : (Tryd.prog.info? 76).map (·.size) = some 2 := by kernel_rfl
theorem results_lg {fn : Func} {b p : Tmp} (h : fn.results = #[.cell p 76, .tmp b]) (tmps : Array Value) (w : World) (g : Nat) (cs : Array Value) (fr : Nat × Nat)
    (hp : tmps.getD p undef = .pointer (some ⟨g, 0, none⟩)) (hg : w.heap[g]? = some (.cells cs 76 fr)) (hc : cs.size = 2) : (results fn tmps).run Tryd.prog w = .ok (.tuple #[.agg cs, tmps.getD b undef]) w := by
  have hp' : tmps[p]?.getD undef = .pointer (some ⟨g, 0, none⟩) := by simpa using hp
  have hrun := run_loadVar_row (P := Tryd.prog) w g _ 76 cs fr _ hg Tryd.underlying76 rfl (by rw [hc]; exact infoLg)
  simp [results, h, hp', asAddr, hrun]
/-- A made list, filled. -/
theorem ownD_blk {w : World} {g n B : Nat} {l : List Bs} (hg : w.heap[g]? = some (.cells (blkD l) 24 (0, 0))) (hn : n = l.length) (hB : B ≤ g) (hl : l.length ≤ 4294967296) : OwnD w B (.slice (some ⟨g, 0, none⟩) n n) l := by
  refine ⟨length_flatMap_const dgc 32 dgc_len l, .inr ⟨g, n, blkD l, by rw [hn], hB, hg, by omega, by unfold maxLen; omega, by rw [blkD_size, hn], ?_⟩⟩
  show (l.flatMap dgc).toArray.toList.take (l.length * 32) = l.flatMap dgc
  rw [List.take_of_length_le (by simp only [List.toList_toArray]; rw [length_flatMap_const dgc 32 dgc_len]; exact Nat.le_refl _)]
theorem filled (n : Nat) (front : List Bs) (hn : n = front.length) : (zds n).take 0 ++ (front.take n ++ (zds n).drop (0 + min front.length n)) = front := by
  rw [List.take_zero, List.nil_append, List.take_of_length_le (by omega), show 0 + min front.length n = n by omega, List.drop_of_length_le (by rw [zds_length]; exact Nat.le_refl _), List.append_nil]
def lgV (size : Int) (v : Value) : Value := .agg #[.int .i64 size, v]
def RResPost (size : Int) (front : List Bs) (w : World) (e : Ending) (w' : World) : Prop :=
  ∃ z v, e = .returned (.tuple #[lgV z v, .int .i64 (resumeE size front)]) ∧ (∃ q j d, v = .slice q j d) ∧ (if resumeE size front = 0 then z = size ∧ OwnD w' w.heap.size v front else True) ∧ Mod [] w w'
set_option maxRecDepth 100000 in
theorem rresume_any (size : Int) (p : Option Addr) (n c : Nat) (front : List Bs) (w : World) (hn : n = front.length) (hr : RdD w p c front) (hl : front.length ≤ 4294967296) :
    Calls Tryd.prog 57 #[.int .i64 size, .slice p n c] w (RResPost size front w) := by
  by_cases hb : size < 0 ∨ 1099511627776 < size
  · have hE : resumeE size front = 40 := by unfold resumeE; rw [if_pos hb]
    suffices hc : Calls Tryd.prog 57 #[.int .i64 size, .slice p n c] w (fun e w' => e = .returned (.tuple #[lgV 0 (.slice none 0 0), .int .i64 40]) ∧ Mod [] w w') by
      refine hc.mono ?_
      rintro e w' ⟨rfl, m⟩
      exact ⟨_, _, by rw [hE], ⟨_, _, _, rfl⟩, by rw [hE, if_neg (by decide)]; trivial, m⟩
    by_cases h1 : size < 0
    · clear hb hE hr hn hl
      go_enter Tryd.func57, Tryd.ntmps57
      go_wp2_with fail
      exact bodyPost_ret (results_lg rfl _ _ _ _ _ rfl (hp_new w _ _ rfl) rfl) rfl ⟨rfl, (Mod.refl [] w).alloc _⟩
    · have h2 : 1099511627776 < size := by omega
      have h3 : ¬ size < 0 := by omega
      clear hb h1 hE hr hn hl
      go_enter Tryd.func57, Tryd.ntmps57
      go_wp2_with fail
      exact bodyPost_ret (results_lg rfl _ _ _ _ _ rfl (hp_new w _ _ rfl) rfl) rfl ⟨rfl, (Mod.refl [] w).alloc _⟩
  · obtain ⟨s, rfl⟩ : ∃ s : Nat, size = s := ⟨size.toNat, by omega⟩
    have hs : s ≤ 1099511627776 := by omega
    have f1 : (0 : Int) ≤ (s : Int) := by omega
    have f2 : (s : Int) ≤ 1099511627776 := by omega
    have HO := Lib.hid (fun w => rones_any s w hs)
    by_cases hc : front.length = ones s
    · have hE : resumeE s front = 0 := by unfold resumeE; rw [if_neg hb, Int.toNat_natCast, if_neg (by simp [hc])]
      suffices hx : Calls Tryd.prog 57 #[.int .i64 s, .slice p n c] w (fun e w' => ∃ v, e = .returned (.tuple #[lgV s v, .int .i64 0]) ∧ OwnD w' w.heap.size v front ∧ Mod [] w w') by
        refine hx.mono ?_
        rintro e w' ⟨v, rfl, h1, h2⟩
        obtain ⟨q, d, hv, _⟩ := h1.rd
        exact ⟨_, _, by rw [hE], ⟨q, _, d, hv⟩, by rw [hE, if_pos rfl]; exact ⟨rfl, h1⟩, h2⟩
      have HC := Lib.hid (hn.trans hc)
      have HN := Lib.hid hn
      have HR := Lib.hid hr
      have hn4 : n ≤ 4294967296 := by omega
      clear hr hc hn hb hE
      go_enter Tryd.func57, Tryd.ntmps57
      go_wp2_with fail
      refine (HO.out _).mono ?_
      rintro e w1 ⟨rfl, rfl⟩
      rw [← HC.out]
      have hnn : ((n : Int) != (n : Int)) = false := by simp
      go_wp2_with (first
        | (at_make; with_reducible refine wpList_makeD rfl _ _ rfl n _ rfl rfl rfl (by omega) ?_)
        | (with_reducible refine froz_copy _ _ rfl ?_))
      unfold Froz
      refine wpList_copyD rfl _ _ rfl (w.heap.size + 1) 0 n n p n c front (zds n) rfl rfl (hp_new _ _ _ (by simp)) (HR.out.mod0 (((Mod.refl [] w).alloc _).alloc _)) HN.out (by rw [zds_length]; omega) ?_
      rw [filled n front HN.out]
      refine abs_w (C := fun W => wpList _ _ _ _ _ W) (fun W => W.heap[w.heap.size]? = some (.cells #[.int .i64 0, .slice none 0 0] 76) ∧ W.heap[w.heap.size + 1]? = some (.cells (blkD front) 24) ∧ Mod [] w W) ⟨hp_setRow_ne (hp_old (hp_new w _ _ rfl)) (by omega), hp_setRow (hp_new _ _ _ (by simp)), (((Mod.refl [] w).alloc _).alloc _).setRow (.inr (by omega)) _⟩ ?_
      rintro W ⟨h0, h1, hm⟩
      have hE2 : ∀ u v : Value, Mod [w.heap.size] W ((W.setCell ⟨w.heap.size, 0, none⟩ u).setCell ⟨w.heap.size, 1, none⟩ v) := fun u v => ((Mod.refl [w.heap.size] W).setCell (.inl (by simp)) _).setCell (.inl (by simp)) _
      have HE2 := Lib.hid hE2
      have hE3 : ∀ u v : Value, Mod [] w ((W.setCell ⟨w.heap.size, 0, none⟩ u).setCell ⟨w.heap.size, 1, none⟩ v) := fun u v => (hm.setCell (.inr (Nat.le_refl _)) _).setCell (.inr (Nat.le_refl _)) _
      have HE3 := Lib.hid hE3
      clear hE2 hE3
      have c0 := cell_blk h0 0
      have c1 := cell_blk h0 1
      have g0 := frozen_blk h0 0
      have g1 := frozen_blk h0 1
      have H0 := Lib.hid h0
      have H1 := Lib.hid h1
      have HM := Lib.hid hm
      clear h0 h1 hm
      go_wp2_with fail
      exact bodyPost_ret (results_lg rfl _ _ _ _ _ rfl (hp_sc (j := 1) (hp_sc (j := 0) H0.out)) rfl) rfl ⟨.slice (some ⟨w.heap.size + 1, 0, none⟩) n n, rfl, (ownD_blk H1.out HN.out (by omega) hl).mod (HE2.out _ _) (fun y hy h => by
        rw [List.mem_singleton.1 hy] at h
        injection h with h
        simp at h), HE3.out _ _⟩
    · have hE : resumeE s front = 42 := by unfold resumeE; rw [if_neg hb, Int.toNat_natCast, if_pos hc]
      suffices hx : Calls Tryd.prog 57 #[.int .i64 s, .slice p n c] w (fun e w' => e = .returned (.tuple #[lgV 0 (.slice none 0 0), .int .i64 42]) ∧ Mod [] w w') by
        refine hx.mono ?_
        rintro e w' ⟨rfl, m⟩
        exact ⟨_, _, by rw [hE], ⟨_, _, _, rfl⟩, by rw [hE, if_neg (by decide)]; trivial, m⟩
      have e4 : ((n : Int) != (ones s : Int)) = true := by simp; omega
      have e5 : (n != ones s) = true := by simp; omega
      clear hr hc hn hb hE
      go_enter Tryd.func57, Tryd.ntmps57
      go_wp2_with fail
      refine (HO.out _).mono ?_
      rintro e w1 ⟨rfl, rfl⟩
      go_wp2_with fail
      exact bodyPost_ret (results_lg rfl _ _ _ _ _ rfl (hp_new w _ _ rfl) rfl) rfl ⟨rfl, (Mod.refl [] w).alloc _⟩
/-- The reference's root. -/
theorem rlroot_nil {hf : Bs → Bs} (size : Int) (c : Nat) (p : Option Addr) (w : World) (H : Hs hf w) (R : Rf w) :
    Calls Tryd.prog 53 #[lgV size (.slice p 0 c)] w fun e w' => e = .returned (dv (hf [])) ∧ Mod [] w w' := by
  have HH := Lib.hid H
  have HL := Lib.hid (H.len [])
  have HNO := Lib.hid (fun (W : World) (k : Mod [] w W) => rsum (hf := hf) (H.mod0 k) (R.mod0 k) none 0 0 [] rfl (Rd.nil _ _ _ _) (by simp))
  clear H R
  unfold lgV
  go_enter Tryd.func53, Tryd.ntmps53
  go_wp2_with fail
  refine (HNO.out _ (((Mod.refl [] w).alloc _).alloc _)).mono ?_
  rintro e w1 ⟨rfl, m1⟩
  have h2 := m1.get0 (hp_new (w.alloc (.cells #[.int .i64 size, .slice p 0 c] 76)) (.cells ((zeros 32).map V8).toArray 24) (w.heap.size + 1) (by simp))
  have hS := storeDv (hf []) HL.out h2 (by simp [zeros_length])
  have HM := Lib.hid (((((Mod.refl [] w).alloc (.cells #[.int .i64 size, .slice p 0 c] 76)).alloc (.cells ((zeros 32).map V8).toArray 24)).trans0 m1).setRow (g := w.heap.size + 1) (.inr (by omega)) ((hf []).map V8).toArray)
  have H2 := Lib.hid h2
  clear h2 m1
  go_wp2_with fail
  exact bodyPost_ret (results_dv rfl _ _ _ _ HL.out _ rfl (hp_setRow H2.out)) rfl ⟨rfl, HM.out⟩
theorem storeNewD3 (w : World) (o o2 : Obj) (d : Bs) (hd : d.length = 32) (Z : Array Value) (hZ : Z.size = 32) : (StoreO 24 (.pointer (some ⟨w.heap.size + 2, 0, none⟩)) (dv d)).run Tryd.prog (((w.alloc o).alloc o2).alloc (.cells Z 24)) = .ok () (((w.alloc o).alloc o2).alloc (.cells (d.map V8).toArray 24)) := by
  have h := storeDv (w := ((w.alloc o).alloc o2).alloc (.cells Z 24)) d hd (hp_new ((w.alloc o).alloc o2) _ (w.heap.size + 2) (by simp)) hZ
  rw [setRow_alloc_at _ _ _ _ _ (by simp)] at h
  exact h
set_option maxRecDepth 100000 in
theorem rlroot_cons {hf : Bs → Bs} (size : Int) (j c : Nat) (p : Option Addr) (q : List Bs) (x : Bs) (w : World) (hr : RdD w p c (q ++ [x])) (ha : All32 (q ++ [x])) (hj : j = q.length) (hl : j ≤ 64) (H : Hs hf w) (R : Rf w) :
    Calls Tryd.prog 53 #[lgV size (.slice p (j + 1 : Nat) c)] w fun e w' => e = .returned (dv (foldF hf x q.reverse)) ∧ Mod [] w w' := by
  have HH := Lib.hid H
  have HRf := Lib.hid R
  have hx : (q ++ [x])[j]? = some x := by rw [hj]; simp
  have hx32 : x.length = 32 := ha x (by simp)
  obtain ⟨b, o, rfl, _⟩ := hr.elem dgc_len j x hx
  have hL := fun o1 o2 => loadD_at (hr.mod0 (((Mod.refl [] w).alloc o1).alloc o2)) x hx hx32
  have hS := fun o1 o2 Z hZ => storeNewD3 w o1 o2 x hx32 Z hZ
  have HQ := Lib.hid hj
  have HR := Lib.hid hr
  have e0 : ((j : Int) + 1 == 0) = false := by simp; omega
  have HA := Lib.hid ha
  have HX32 := Lib.hid hx32
  clear H R hr hj hx ha hx32
  unfold lgV
  go_enter Tryd.func53, Tryd.ntmps53
  go_wp2_with fail
  have HZ0 := Lib.hid (show ((w.alloc (.cells #[.int .i64 size, .slice (some ⟨b, o, none⟩) (j + 1) c] 76)).alloc (.cells ((zeros 32).map V8).toArray 24)).heap[w.heap.size + 1]? = some (.cells ((zeros 32).map V8).toArray 24 (0, 0)) from hp_new _ _ _ (by simp))
  have HZ1 := Lib.hid (show ((w.alloc (.cells #[.int .i64 size, .slice (some ⟨b, o, none⟩) (j + 1) c] 76)).alloc (.cells ((zeros 32).map V8).toArray 24)).heap[w.heap.size]? = some (.cells #[.int .i64 size, .slice (some ⟨b, o, none⟩) (j + 1) c] 76 (0, 0)) from hp_old (hp_new w _ _ rfl))
  have HM0 := Lib.hid ((((Mod.refl [] w).alloc (.cells #[.int .i64 size, .slice (some ⟨b, o, none⟩) (j + 1) c] 76)).alloc (.cells ((zeros 32).map V8).toArray 24)).alloc (.cells (x.map V8).toArray 24))
  go_loopw [4] (fun iv wr => ∃ (i : Nat) (d : Bs), i ≤ j ∧ iv = .int .i64 ((i : Int) - 1) ∧ d.length = 32 ∧ wr.heap[w.heap.size + 1]? = some (.cells ((zeros 32).map V8).toArray 24 (0, 0)) ∧ wr.heap[w.heap.size]? = some (.cells #[.int .i64 size, .slice (some ⟨b, o, none⟩) (j + 1) c] 76 (0, 0)) ∧ wr.heap[w.heap.size + 2]? = some (.cells (d.map V8).toArray 24 (0, 0)) ∧ foldF hf d (q.take i).reverse = foldF hf x q.reverse ∧ Mod [] w wr) (fun iv _ => (intOf iv + 1).toNat)
  case atStart => exact ⟨j, x, by omega, by go_num, HX32.out, hp_old HZ0.out, hp_old HZ1.out, hp_new _ _ _ (by simp), by rw [List.take_of_length_le (by have := HQ.out; omega)], HM0.out⟩
  case round =>
    clear HZ0 HZ1 HM0 hS hL
    obtain ⟨i, d, hi, rfl, hd32, h0, h1, h2, hfold, hm⟩ := hrel
    have H0 := Lib.hid h0
    have H1 := Lib.hid h1
    have H2 := Lib.hid h2
    have HF := Lib.hid hfold
    have HM := Lib.hid hm
    have HD := Lib.hid hd32
    have c1 : wr.cell? ⟨w.heap.size, 1, none⟩ = some (.slice (some ⟨b, o, none⟩) (j + 1) c) := by rw [cell_blk h1]; rfl
    have hL2 := loadDv (w := wr.drew) d hd32 (hp_drew h2)
    clear h0 h1 h2 hfold hm
    by_cases hlt : 0 < i
    · obtain ⟨r, hr⟩ : ∃ r, i = r + 1 := ⟨i - 1, by omega⟩
      subst hr
      have hql : q.length = j := HQ.out.symm
      obtain ⟨y, hy⟩ : ∃ y, q[r]? = some y := ⟨q[r]'(by omega), List.getElem?_eq_getElem _⟩
      have hyx : (q ++ [x])[r]? = some y := by rw [List.getElem?_append_left (by omega)]; exact hy
      have hy32 : y.length = 32 := HA.out y (List.mem_of_getElem? hyx)
      have HDR := Lib.hid (show (q.take (r + 1)).reverse = y :: (q.take r).reverse by rw [List.take_add_one, hy]; simp)
      have HY := Lib.hid hy32
      have hL1 := loadD_at (w := wr.drew) (HR.out.mod0 HM.out.drew) (i := r) y hyx hy32
      have g1 : ((r + 1 : Nat) : Int) - 1 = (r : Int) := by omega
      have f1 : (0 : Int) ≤ (r : Int) := by omega
      have f2 : (r : Int) < ((j + 1 : Nat) : Int) := by omega
      have f3 : (r : Int) < (j : Int) + 1 := by omega
      rw [g1]
      clear hql hy hyx
      go_wp2_with fail
      go_region_law (go_simp; go_at_call 25; refine (rnode_any y d HY.out HD.out _ (HH.out.mod0 HM.out.drew) (HRf.out.mod0 HM.out.drew)).mono ?_
                     rintro _ w6 ⟨rfl, m6⟩
                     have hS6 := storeDv (nodeH hf y d) (HH.out.len _) (m6.get0 (hp_drew H2.out)) (by simp [HD.out]))
      all_goals
        have HE0 := Lib.hid (hp_setRow_ne (cs := ((nodeH hf y d).map V8).toArray) (m6.get0 (hp_drew H0.out)) (show w.heap.size + 1 ≠ w.heap.size + 2 by omega))
        have HE1 := Lib.hid (hp_setRow_ne (cs := ((nodeH hf y d).map V8).toArray) (m6.get0 (hp_drew H1.out)) (show w.heap.size ≠ w.heap.size + 2 by omega))
        have HE2 := Lib.hid (hp_setRow (cs := ((nodeH hf y d).map V8).toArray) (m6.get0 (hp_drew H2.out)))
        have HEM := Lib.hid ((HM.out.drew.trans0 m6).setRow (g := w.heap.size + 2) (.inr (by omega)) ((nodeH hf y d).map V8).toArray)
        have HFE := Lib.hid (show foldF hf (nodeH hf y d) (q.take r).reverse = foldF hf x q.reverse by
          rw [← HF.out, HDR.out]; rfl)
        clear m6 hS6 hL1 hL2 c1 f1 f2 f3
        go_wp2_with fail
        go_roundw
        case rel => exact ⟨r, nodeH hf y d, by omega, by go_num, HH.out.len _, HE0.out, HE1.out, HE2.out, HFE.out, HEM.out⟩
        case measure => simp [intOf]; try omega
    · have hij : i = 0 := by omega
      subst hij
      have hfd : d = foldF hf x q.reverse := by
        have h := HF.out
        rw [List.take_zero] at h
        exact h
      have hL3 := loadDv (w := wr) d HD.out H2.out
      have hS3 := storeDv (w := wr) d HD.out H0.out (by simp [zeros_length])
      have HFD := Lib.hid hfd
      clear hL2 hfd
      go_wp2_with fail
      exact bodyPost_ret (results_dv rfl _ _ _ _ HD.out _ rfl (hp_setRow H0.out)) rfl ⟨by rw [← HFD.out], HM.out.setRow (.inr (by omega)) _⟩
end Go.Proofs.YtbbobpjcbnfpfaaDoor
namespace Go.Proofs.YtbbobpjcbnfpfaaDoor
open Go.RowKit
attribute [local go_sem high] one8 st8 cm8 b_and8 b_and8r b_and8l b_or8 b_or8r b_or8l b_xor8 b_xor8r b_xor8l b_andNot8 b_andNot8r b_andNot8l b_add8 b_add8r b_add8l b_sub8 b_sub8r b_sub8l b_mul8 b_mul8r b_mul8l b_eql8 b_eql8r b_eql8l b_neq8 b_neq8r b_neq8l b_lss8 b_lss8r b_lss8l b_leq8 b_leq8r b_leq8l b_gtr8 b_gtr8r b_gtr8l b_geq8 b_geq8r b_geq8l b_quo8r b_rem8r b_shl8r b_shr8r b_shl8l b_shr8l u_xor8 g_eql8 g_neq8 g_eql8' g_neq8' one32 st32 cm32 b_and32 b_and32r b_and32l b_or32 b_or32r b_or32l b_xor32 b_xor32r b_xor32l b_andNot32 b_andNot32r b_andNot32l b_add32 b_add32r b_add32l b_sub32 b_sub32r b_sub32l b_mul32 b_mul32r b_mul32l b_eql32 b_eql32r b_eql32l b_neq32 b_neq32r b_neq32l b_lss32 b_lss32r b_lss32l b_leq32 b_leq32r b_leq32l b_gtr32 b_gtr32r b_gtr32l b_geq32 b_geq32r b_geq32l b_quo32r b_rem32r b_shl32r b_shr32r b_shl32l b_shr32l u_xor32 g_eql32 g_neq32 g_eql32' g_neq32' one64 st64 cm64 b_and64 b_and64r b_and64l b_or64 b_or64r b_or64l b_xor64 b_xor64r b_xor64l b_andNot64 b_andNot64r b_andNot64l b_add64 b_add64r b_add64l b_sub64 b_sub64r b_sub64l b_mul64 b_mul64r b_mul64l b_eql64 b_eql64r b_eql64l b_neq64 b_neq64r b_neq64l b_lss64 b_lss64r b_lss64l b_leq64 b_leq64r b_leq64l b_gtr64 b_gtr64r b_gtr64l b_geq64 b_geq64r b_geq64l b_quo64r b_rem64r b_shl64r b_shr64r b_shl64l b_shr64l u_xor64 g_eql64 g_neq64 g_eql64' g_neq64' c_u8_u8 c_u8_u32 c_u8_u64 c_i_u8 c_u32_u8 c_u32_u32 c_u32_u64 c_i_u32 c_u64_u8 c_u64_u32 c_u64_u64 c_i_u64 c_u8_i c_u32_i
attribute [local go_sem ↓] ce8 ce32 ce64
attribute [local go_sem ↓] sliced_slp loadO26 storeO26 buildO24 buildSlO42
theorem rlroot_any {hf : Bs → Bs} (size : Int) (n c : Nat) (p : Option Addr) (front : List Bs) (w : World) (hn : n = front.length) (hr : RdD w p c front) (ha : All32 front) (hl : n ≤ 64) (H : Hs hf w) (R : Rf w) :
    Calls Tryd.prog 53 #[lgV size (.slice p n c)] w fun e w' => e = .returned (dv (logRoot hf front)) ∧ Mod [] w w' := by
  by_cases h0 : front = []
  · subst h0
    subst hn
    exact rlroot_nil size c p w H R
  · obtain ⟨q, x, rfl⟩ : ∃ q x, front = q ++ [x] := ⟨front.dropLast, front.getLast h0, (List.dropLast_concat_getLast h0).symm⟩
    have e : logRoot hf (q ++ [x]) = foldF hf x q.reverse := by unfold logRoot; rw [List.reverse_append]; rfl
    rw [e]
    obtain ⟨j, rfl⟩ : ∃ j, n = j + 1 := ⟨q.length, by simpa using hn⟩
    exact rlroot_cons size j c p q x w hr ha (by simpa using hn) (by omega) H R
theorem half_wrap (n : Nat) (h : n < 1099511627776) : wrap64 ((n : Int) / 2) = (n : Int) / 2 := by unfold wrap64; omega
theorem half_meas (n : Nat) (h : n % 2 = 1) (hb : n < 1099511627776) : (wrap64 ((n : Int) / 2)).toNat < ((n : Int)).toNat := by
  rw [half_wrap n hb]; omega
set_option maxRecDepth 100000 in
theorem radd_full (size n c : Nat) (p : Option Addr) (q : Option Addr) (k d : Nat) (w : World) (hs : size = 1099511627776) :
    Calls Tryd.prog 50 #[lgV size (.slice p n c), .slice q k d] w fun e w' => e = .returned (.tuple #[lgV size (.slice p n c), .int .i64 (-1)]) ∧ Mod [] w w' := by
  subst hs
  unfold lgV
  go_enter Tryd.func50, Tryd.ntmps50
  go_wp2_with fail
  exact bodyPost_ret (results_lg rfl _ _ _ _ _ rfl (hp_new (w.alloc (.cells #[.int .i64 1099511627776, .slice p n c] 76)) _ (w.heap.size + 1) (by simp)) rfl) rfl ⟨rfl, ((Mod.refl [] w).alloc _).alloc _⟩
set_option maxRecDepth 100000 in
set_option maxHeartbeats 2000000 in
theorem radd_any {hf : Bs → Bs} (size n c : Nat) (p : Option Addr) (front : List Bs) (q : Option Addr) (k d : Nat) (leaf : Bs) (w : World) (hs : size < 1099511627776) (hn : n = front.length) (hr : RdD w p c front) (ha : All32 front) (hc : front.length = ones size) (hk : k = leaf.length) (hq : Rd V8 w q d leaf) (hl : leaf.length ≤ 4398046511104) (H : Hs hf w) (R : Rf w) :
    Calls Tryd.prog 50 #[lgV size (.slice p n c), .slice q k d] w fun e w' => ∃ v, e = .returned (.tuple #[lgV ((size : Int) + 1) v, .int .i64 size]) ∧ OwnD w' w.heap.size v (addF hf size front (leafH hf leaf)) ∧ Mod [] w w' := by
  have HH := Lib.hid H
  have HRf := Lib.hid R
  have HLF := Lib.hid (fun (W : World) (m : Mod [] w W) => rleaf_any q d k leaf W hk (hq.mod0 m) (H.mod0 m) (R.mod0 m) hl)
  have hD32 : (leafH hf leaf).length = 32 := H.len _
  obtain ⟨D, hD⟩ : ∃ D, D = leafH hf leaf := ⟨_, rfl⟩
  rw [← hD] at HLF hD32 ⊢
  have HD32 := Lib.hid hD32
  have HR := Lib.hid hr
  have HN := Lib.hid hn
  have HA := Lib.hid ha
  have HC := Lib.hid hc
  have HS := Lib.hid hs
  have hn41 : n ≤ 41 := by rw [hn, hc]; exact ones_le 41 size (by omega)
  have f1 : decide ((1099511627776 : Int) ≤ (size : Int)) = false := by simp; omega
  clear H R hD32 hD hr hn ha hc hs hk hq hl
  unfold lgV
  go_enter Tryd.func50, Tryd.ntmps50
  go_wp2_with (first
    | (at_make; with_reducible refine wpList_makeD rfl _ _ rfl n _ rfl rfl rfl (by omega) ?_)
    | (with_reducible refine froz_copy _ _ rfl ?_))
  unfold Froz
  refine wpList_copyD rfl _ _ rfl (w.heap.size + 1 + 1) 0 n n p n c front (zds n) rfl rfl (hp_new _ _ _ (by simp)) (HR.out.mod0 ((((Mod.refl [] w).alloc _).alloc _).alloc _)) HN.out (by rw [zds_length]; omega) ?_
  rw [filled n front HN.out]
  obtain ⟨gF, hgF⟩ : ∃ gF, gF = w.heap.size + 1 + 1 := ⟨_, rfl⟩
  have hgw : w.heap.size ≤ gF := by omega
  refine abs_w (C := fun W => wpList _ _ _ _ _ W) (fun W => W.heap[w.heap.size]? = some (.cells #[.int .i64 size, .slice p n c] 76) ∧ W.heap[w.heap.size + 1]? = some (.cells #[.int .i64 0, .slice none 0 0] 76) ∧ W.heap[gF]? = some (.cells (blkD front) 24) ∧ Mod [] w W)
    ⟨hp_setRow_ne (hp_old (hp_old (hp_new w _ _ rfl))) (by omega), hp_setRow_ne (hp_old (hp_new _ _ _ (by simp))) (by omega), by rw [hgF]; exact hp_setRow (hp_new _ _ _ (by simp)), ((((Mod.refl [] w).alloc _).alloc _).alloc _).setRow (.inr (by omega)) _⟩ ?_
  rintro W ⟨h0, h1, h2, hm⟩
  rw [← hgF]
  have HO := Lib.hid (ownD_blk h2 HN.out hgw (by have := HN.out; omega))
  have c00 := cell_blk h0 0
  have H0 := Lib.hid h0
  have H1 := Lib.hid h1
  have HM := Lib.hid hm
  have HGW := Lib.hid hgw
  have HGE := Lib.hid hgF
  have HGL := Lib.hid (lt_of_block h2)
  clear h0 h1 h2 hm hgF hgw
  go_wp2_with fail
  refine (HLF.out _ HM.out).mono ?_
  rintro e w1 ⟨rfl, m1⟩
  have hS := storeNewD w1 D HD32.out
  have m2 := m1.alloc (.cells (D.map V8).toArray 24)
  have H0' := Lib.hid (m2.get0 H0.out)
  have H1' := Lib.hid (m2.get0 H1.out)
  have HO' := Lib.hid (HO.out.mod0 m2)
  have HM' := Lib.hid (HM.out.trans0 m2)
  have HDB := Lib.hid (hp_new w1 (.cells (D.map V8).toArray 24) _ rfl)
  obtain ⟨T, hT⟩ : ∃ T, T = w1.heap.size := ⟨_, rfl⟩
  have HTF := Lib.hid (show gF < T from by rw [hT]; exact Nat.lt_of_lt_of_le HGL.out m1.size)
  have HTW := Lib.hid (show w.heap.size ≤ T from by rw [hT]; exact (HM.out.trans0 m1).size)
  have HT0 := Lib.hid (show w.heap.size + 1 < T from by rw [hT]; exact lt_of_block (m1.get0 H1.out))
  have c02 := cell_blk H0'.out 0
  clear m1 m2 H0 H1 HO HM c00
  go_wp2_with fail
  rw [← hT] at HDB ⊢
  clear hT hS
  go_loopw [6, 8] (fun uv nv wr => ∃ (nn : Nat) (l : List Bs) (dd : Bs), nv = .int .i64 nn ∧ l.length = ones nn ∧ nn ≤ size ∧ All32 l ∧ dd.length = 32 ∧ addF hf nn l dd = addF hf size front D ∧ OwnD wr w.heap.size uv l ∧ uv.ownBlock = some gF ∧ wr.heap[T]? = some (.cells (dd.map V8).toArray 24 (0, 0)) ∧ wr.heap[w.heap.size]? = some (.cells #[.int .i64 size, .slice p n c] 76 (0, 0)) ∧ wr.heap[w.heap.size + 1]? = some (.cells #[.int .i64 0, .slice none 0 0] 76 (0, 0)) ∧ Mod [] w wr) (fun _ nv _ => (intOf nv).toNat)
  case atStart => exact ⟨size, front, D, rfl, HC.out, Nat.le_refl _, HA.out, HD32.out, rfl, HO'.out, rfl, HDB.out, H0'.out, H1'.out, HM'.out⟩
  case round =>
    clear HO' HDB H0' H1' HM' c02
    obtain ⟨nn, l, dd, rfl, hlen, hnn, a32, hd32, hadd, hown, hob, htb, h0, h1, hm⟩ := hrel
    obtain ⟨pu, cu, hu, hrd, _⟩ := hown.rd
    subst hu
    have HLEN := Lib.hid hlen
    have HNN := Lib.hid hnn
    have HA' := Lib.hid a32
    have HD := Lib.hid hd32
    have HADD := Lib.hid hadd
    have HOWN := Lib.hid hown
    have HOB := Lib.hid hob
    have HTB := Lib.hid htb
    have H0 := Lib.hid h0
    have H1 := Lib.hid h1
    have HM := Lib.hid hm
    have HRD := Lib.hid hrd
    have hl41 : l.length ≤ 41 := by rw [hlen]; exact ones_le 41 nn (by have := HS.out; omega)
    clear hlen hnn a32 hd32 hadd hown hob htb h0 h1 hm hrd
    by_cases hodd : nn % 2 = 1
    · have hne : l ≠ [] := by
        rintro rfl
        have h := HLEN.out
        rw [ones_eq] at h
        simp at h
        omega
      obtain ⟨q', x, hqx⟩ : ∃ q x, l = q ++ [x] := ⟨l.dropLast, l.getLast hne, (List.dropLast_concat_getLast hne).symm⟩
      obtain ⟨m, hm⟩ : ∃ m, m = q'.length := ⟨_, rfl⟩
      have hlm : l.length = m + 1 := by rw [hqx, hm]; simp
      have hx : l[m]? = some x := by rw [hqx, hm]; simp
      have hx32 : x.length = 32 := HA'.out x (List.mem_of_getElem? hx)
      obtain ⟨b, o, rfl, _⟩ := HRD.out.elem dgc_len m x hx
      have hL1 := loadD_at (w := wr.drew) (HRD.out.mod0 (Mod.refl [] wr).drew) (i := m) x hx hx32
      have hL2 := loadDv (w := wr.drew) dd HD.out (hp_drew HTB.out)
      have hcap := HRD.out.le
      rw [hlm] at hcap hl41
      have e1 : ((nn : Int) % 2 == 1) = true := by simp; omega
      have e2 : decide ((nn : Int) % 2 = 1) = true := by simp; omega
      have f2 : (0 : Int) ≤ (m : Int) := by omega
      have f3 : (m : Int) < (m : Int) + 1 := by omega
      have f4 : (m : Int) < ((m + 1 : Nat) : Int) := by omega
      have f5 : (m : Int) ≤ (cu : Int) := by omega
      have g1 : IntKind.i64.wrap (m : Int) = (m : Int) := wrI _ (by omega) (by omega)
      have g2 : IntKind.i64.wrap ((m : Int) + 1 - 1) = (m : Int) := (wrI _ (by omega) (by omega)).trans (by omega)
      have HX := Lib.hid hx32
      have HQX := Lib.hid hqx
      have HMQ := Lib.hid hm
      have HLM := Lib.hid hlm
      have HODD := Lib.hid hodd
      rw [hlm]
      clear hqx hm hlm hx hx32 hodd hne
      go_wp2_with fail
      go_region_law (go_simp; go_at_call 25; refine (rnode_any x dd HX.out HD.out _ (HH.out.mod0 HM.out.drew) (HRf.out.mod0 HM.out.drew)).mono ?_
                     rintro _ w6 ⟨rfl, m6⟩
                     have hS6 := storeDv (nodeH hf x dd) (HH.out.len _) (m6.get0 (hp_drew HTB.out)) (by simp [HD.out]))
      all_goals
        obtain ⟨w7, hw7⟩ : ∃ w7, w7 = w6.setRow T ((nodeH hf x dd).map V8).toArray := ⟨_, rfl⟩
        rw [← hw7] at hS6 ⊢
        have m7 : Mod [T] wr w7 := by rw [hw7]; exact (((Mod.refl [] wr).drew.trans0 m6).mono (by simp)).setRow (.inl (by simp)) _
        have T7 := Lib.hid (show w7.heap[T]? = some (.cells ((nodeH hf x dd).map V8).toArray 24 (0, 0)) by rw [hw7]; exact hp_setRow (m6.get0 (hp_drew HTB.out)))
        have O7 := Lib.hid (HOWN.out.mod m7 (fun y hy => by rw [List.mem_singleton.1 hy, HOB.out]; intro h; injection h with h; have := HTF.out; omega))
        have H07 := Lib.hid (m7.get H0.out (by have := HT0.out; simp; omega))
        have H17 := Lib.hid (m7.get H1.out (by have := HT0.out; simp; omega))
        have HM7 := Lib.hid (show Mod [] w w7 by rw [hw7]; exact (HM.out.drew.trans0 m6).setRow (.inr HTW.out) _)
        have hML : m ≤ l.length := by have := HLM.out; omega
        have whf := half_wrap nn (Nat.lt_of_le_of_lt HNN.out HS.out)
        clear hw7 m6 m7 hS6 hL1 hL2
        go_wp2_with fail
        go_roundw
        case rel =>
          obtain ⟨p9, c9, e9, ho9⟩ := O7.out.front dgc_len m hML
          injection e9 with e91 _ e92
          subst e91 e92
          have hq : l.take m = q' := by rw [HQX.out, HMQ.out, List.take_left' rfl]
          have hl9 := HLEN.out
          have hlm := HLM.out
          have hone := ones_eq nn
          have hodd := HODD.out
          rw [hq] at ho9
          refine ⟨nn / 2, q', nodeH hf x dd, by go_num, by have := HMQ.out; omega, by have := HNN.out; omega, fun y hy => HA'.out y (by rw [HQX.out]; simp [hy]), HH.out.len _, ?_, ho9, ?_, T7.out, H07.out, H17.out, HM7.out⟩
          · rw [← HADD.out]
            conv => rhs; rw [addF]
            rw [if_pos hodd, HQX.out, List.dropLast_concat, List.getLast?_concat, Option.getD_some]
          · rw [← HOB.out]; rfl
        case measure =>
          have hm := half_meas nn HODD.out (Nat.lt_of_le_of_lt HNN.out HS.out)
          rw [show ∀ (k : IntKind) (z : Int), intOf (.int k z) = z from fun _ _ => rfl, show ∀ (k : IntKind) (z : Int), intOf (.int k z) = z from fun _ _ => rfl]
          exact hm
    · have hadd : addF hf size front D = l ++ [dd] := by
        rw [← HADD.out, addF, if_neg hodd]
      have HADE := Lib.hid hadd
      have e1 : ((nn : Int) % 2 == 1) = false := by simp; omega
      have e2 : decide ((nn : Int) % 2 = 1) = false := by simp; omega
      have hL3 := loadDv (w := wr) dd HD.out HTB.out
      have hBS := run_buildD wr dd HD.out
      clear hodd hadd
      go_wp2_with (at_builtin; with_reducible refine froz_app _ _ rfl ?_)
      unfold Froz
      have m9 := Lib.hid ((Mod.refl [] wr).alloc (.cells (dgc dd).toArray 24))
      have HO9 := Lib.hid (HOWN.out.mod0 m9.out)
      refine wpList_appD2 rfl _ _ rfl w.heap.size (.slice pu l.length cu) l HO9.out rfl _ dd rfl (hp_new wr _ _ rfl) (by omega) (HM.out.trans0 m9.out).size ?_
      intro v4 w4 ho4 hg4 _ _
      have HM4 := Lib.hid ((HM.out.trans0 m9.out).of_grown hg4 (fun z hz => .inr (HO9.out.row z hz)))
      have h04 := (hg4.block w.heap.size (lt_of_block (m9.out.get0 H0.out)) (fun hz => by rw [HOB.out] at hz; injection hz with hz; have := HGE.out; omega)).trans (m9.out.get0 H0.out)
      have h14 := (hg4.block (w.heap.size + 1) (lt_of_block (m9.out.get0 H1.out)) (fun hz => by rw [HOB.out] at hz; injection hz with hz; have := HGE.out; omega)).trans (m9.out.get0 H1.out)
      have H14 := Lib.hid h14
      obtain ⟨p4, c4, e4, _, _⟩ := ho4.rd
      subst e4
      have hll : (l ++ [dd]).length = l.length + 1 := by simp
      rw [hll] at ho4 ⊢
      have HO4 := Lib.hid ho4
      have c0 : w4.cell? ⟨w.heap.size, 0, none⟩ = some (.int .i64 size) := by rw [cell_blk h04]; rfl
      have c1 : w4.cell? ⟨w.heap.size + 1, 0, none⟩ = some (.int .i64 0) := by rw [cell_blk h14]; rfl
      have c2 : w4.cell? ⟨w.heap.size + 1, 1, none⟩ = some (.slice none 0 0) := by rw [cell_blk h14]; rfl
      have g1 := frozen_blk h14 0
      have g2 := frozen_blk h14 1
      have wi := (wraps_of size HS.out).1
      have wj := (wraps_of size HS.out).2.1
      have K2 := Lib.hid (fun u v : Value => show Mod [w.heap.size + 1] w4 ((w4.setCell ⟨w.heap.size + 1, 0, none⟩ u).setCell ⟨w.heap.size + 1, 1, none⟩ v) from ((Mod.refl [w.heap.size + 1] w4).setCell (.inl (by simp)) _).setCell (.inl (by simp)) _)
      have K3 := Lib.hid (fun u v : Value => show Mod [] w ((w4.setCell ⟨w.heap.size + 1, 0, none⟩ u).setCell ⟨w.heap.size + 1, 1, none⟩ v) from (HM4.out.setCell (.inr (Nat.le_succ _)) _).setCell (.inr (Nat.le_succ _)) _)
      have HN4 := Lib.hid (show (Value.slice p4 (l.length + 1) c4).ownBlock ≠ some (w.heap.size + 1) from fun hx => by
        obtain ⟨C, hC⟩ := HO4.out.type _ hx
        rw [h14] at hC
        injection hC with hC
        injection hC with _ h2 _
        exact absurd h2 (by decide))
      clear ho4 hg4 h14 h04 hBS hL3 hll
      go_wp2_with fail
      go_region
      all_goals
        go_wp2_with fail
        refine bodyPost_ret (results_lg rfl _ _ (w.heap.size + 1) #[.int .i64 ((size : Int) + 1), .slice p4 (l.length + 1) c4] _ rfl (hp_drew (hp_sc (j := 1) (hp_sc (j := 0) H14.out))) rfl) rfl ⟨.slice p4 (l.length + 1) c4, rfl, ?_, (K3.out _ _).drew⟩
        rw [HADE.out]
        exact HO4.out.mod (K2.out _ _).drew (fun y hy => by rw [List.mem_singleton.1 hy]; exact HN4.out)
end Go.Proofs.YtbbobpjcbnfpfaaDoor
