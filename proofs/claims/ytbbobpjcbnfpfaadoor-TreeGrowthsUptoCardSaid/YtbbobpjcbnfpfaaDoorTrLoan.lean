/- lend of the tree's laws. Conditions: at most 2^32 leaves. -/
import Derived.Test.YtbbobpjcbnfpfaaDoorTrLoanP
import Derived.Test.YtbbobpjcbnfpfaaDoorTrAwake
namespace Go.Proofs.YtbbobpjcbnfpfaaDoor
open Go.RowKit
attribute [local go_sem high] one8 st8 cm8 b_and8 b_and8r b_and8l b_or8 b_or8r b_or8l b_xor8 b_xor8r b_xor8l b_andNot8 b_andNot8r b_andNot8l b_add8 b_add8r b_add8l b_sub8 b_sub8r b_sub8l b_mul8 b_mul8r b_mul8l b_eql8 b_eql8r b_eql8l b_neq8 b_neq8r b_neq8l b_lss8 b_lss8r b_lss8l b_leq8 b_leq8r b_leq8l b_gtr8 b_gtr8r b_gtr8l b_geq8 b_geq8r b_geq8l b_quo8r b_rem8r b_shl8r b_shr8r b_shl8l b_shr8l u_xor8 g_eql8 g_neq8 g_eql8' g_neq8' one32 st32 cm32 b_and32 b_and32r b_and32l b_or32 b_or32r b_or32l b_xor32 b_xor32r b_xor32l b_andNot32 b_andNot32r b_andNot32l b_add32 b_add32r b_add32l b_sub32 b_sub32r b_sub32l b_mul32 b_mul32r b_mul32l b_eql32 b_eql32r b_eql32l b_neq32 b_neq32r b_neq32l b_lss32 b_lss32r b_lss32l b_leq32 b_leq32r b_leq32l b_gtr32 b_gtr32r b_gtr32l b_geq32 b_geq32r b_geq32l b_quo32r b_rem32r b_shl32r b_shr32r b_shl32l b_shr32l u_xor32 g_eql32 g_neq32 g_eql32' g_neq32' one64 st64 cm64 b_and64 b_and64r b_and64l b_or64 b_or64r b_or64l b_xor64 b_xor64r b_xor64l b_andNot64 b_andNot64r b_andNot64l b_add64 b_add64r b_add64l b_sub64 b_sub64r b_sub64l b_mul64 b_mul64r b_mul64l b_eql64 b_eql64r b_eql64l b_neq64 b_neq64r b_neq64l b_lss64 b_lss64r b_lss64l b_leq64 b_leq64r b_leq64l b_gtr64 b_gtr64r b_gtr64l b_geq64 b_geq64r b_geq64l b_quo64r b_rem64r b_shl64r b_shr64r b_shl64l b_shr64l u_xor64 g_eql64 g_neq64 g_eql64' g_neq64' c_u8_u8 c_u8_u32 c_u8_u64 c_i_u8 c_u32_u8 c_u32_u32 c_u32_u64 c_i_u32 c_u64_u8 c_u64_u32 c_u64_u64 c_i_u64 c_u8_i c_u32_i
attribute [local go_sem ↓] ce8 ce32 ce64
attribute [local go_sem ↓] sliced_slp loadO26 storeO26
/-- Marks: texts of four bytes. -/
def MkAt (w : World) (y : SlR) : Prop := y.d = [109, 97, 114, 107] ∧ Rd V8 w y.p y.cap y.d
/-- Leaves that are lent. -/
structure Loan (w : World) (B m : Nat) (po : Option Addr) (co : Nat) (ys : List SlR) : Prop where
  own : Rd SlR.v w po co (ys.map (wide 70))
  mine : ∃ ms : List SlR, ms.length = 9 ∧ w.heap[m]? = some (.cells (mineOf ys ms 0).toArray 22) ∧ ∀ y ∈ ms, MkAt w y
  held : Held 70 w B ys
  le : B ≤ m
def loanV (m : Nat) (po : Option Addr) (co n : Nat) : Value := .agg #[.slice (some ⟨m, 0, none⟩) (n + 9) (n + 9), .slice po n co, .int .i64 n]
set_option maxRecDepth 100000 in
set_option maxHeartbeats 1000000 in
theorem lend_any (xs : List SlR) (p : Option Addr) (c n : Nat) (w : World) (hn : n = xs.length) (h : Lv w p c xs) (hn4 : n ≤ 1048576) :
    Calls Tryd.prog 19 #[.slice p n c] w fun e w' => ∃ m po co ys, e = .returned (loanV m po co n) ∧ ds ys = ds xs ∧ Loan w' w.heap.size m po co ys ∧ Mod [] w w' := by
  have HV := Lib.hid h
  have HN := Lib.hid hn
  clear h hn
  go_enter Tryd.func19, Tryd.ntmps19
  go_wp2_with (at_make; refine wpList_makeSl rfl _ _ rfl (n + 9) _ rfl rfl (by omega) (by omega) ?_)
  go_wp2_with fail
  have H0 : ∀ W, W = (((w.alloc (.cells #[.slice none 0 0, .slice none 0 0, .int .i64 0] 35)).alloc (.cells #[.slice (some ⟨w.heap.size + 1 + 1, 0, none⟩) (n + 9) (n + 9), .slice none 0 0, .int .i64 n] 35)).alloc (.cells (mineOf [] [] (n + 9)).toArray 22)) →
      W.heap[w.heap.size]? = some (.cells #[.slice none 0 0, .slice none 0 0, .int .i64 0] 35) ∧ W.heap[w.heap.size + 1]? = some (.cells #[.slice (some ⟨w.heap.size + 1 + 1, 0, none⟩) (n + 9) (n + 9), .slice none 0 0, .int .i64 n] 35) ∧ W.heap[w.heap.size + 1 + 1]? = some (.cells (mineOf [] [] (n + 9)).toArray 22) ∧ Mod [] w W := by
    rintro W rfl
    exact ⟨hp_old (hp_old (hp_new w _ _ rfl)), hp_old (hp_new _ _ _ (by simp)), hp_new _ _ _ (by simp), (((Mod.refl [] w).alloc _).alloc _).alloc _⟩
  obtain ⟨hr0, hx0, hm0, M0⟩ := H0 _ rfl
  refine abs_w (C := fun W => Code.wp _ _ _ _ W) (fun W => W.heap[w.heap.size]? = some (.cells #[.slice none 0 0, .slice none 0 0, .int .i64 0] 35) ∧ W.heap[w.heap.size + 1]? = some (.cells #[.slice (some ⟨w.heap.size + 1 + 1, 0, none⟩) (n + 9) (n + 9), .slice none 0 0, .int .i64 n] 35) ∧ W.heap[w.heap.size + 1 + 1]? = some (.cells (mineOf [] [] (n + 9)).toArray 22) ∧ Mod [] w W) ⟨hr0, hx0, hm0, M0⟩ ?_
  clear H0 hr0 hx0 hm0 M0
  rintro W ⟨hr0, hx0, hm0, M0⟩
  have NE := Lib.hid (show w.heap.size + 1 + 1 < W.heap.size from lt_of_block hm0)
  obtain ⟨m, hm⟩ : ∃ m, m = w.heap.size + 1 + 1 := ⟨_, rfl⟩
  rw [← hm] at hx0 hm0 NE ⊢
  obtain ⟨xb, hxb⟩ : ∃ xb, xb = w.heap.size + 1 := ⟨_, rfl⟩
  rw [← hxb] at hx0 ⊢
  have HMW := Lib.hid hm
  have HXB := Lib.hid hxb
  have hxm : xb ≠ m := by omega
  have hmx : m ≠ xb := by omega
  have HR0 := Lib.hid hr0
  have HX0 := Lib.hid hx0
  have HM0 := Lib.hid hm0
  have HMD := Lib.hid M0
  clear hm hxb hr0 hx0 hm0 M0
  go_loopw [4, 5] (fun iv u wr => ∃ (k : Nat) (ys : List SlR) (vo : Value), k ≤ n ∧ iv = .int .i64 k ∧ Hid (ds ys = (ds xs).take k) ∧ OwnL wr (m + 1) vo (ys.map (wide 70)) ∧ wr.heap[w.heap.size]? = some (.cells #[.slice none 0 0, .slice none 0 0, .int .i64 0] 35) ∧ wr.heap[xb]? = some (.cells #[.slice (some ⟨m, 0, none⟩) (n + 9) (n + 9), vo, .int .i64 n] 35) ∧ wr.heap[m]? = some (.cells (mineOf ys [] (n + 9 - k)).toArray 22) ∧ Held 70 wr (m + 1) ys ∧ Mod [] w wr) (fun iv _ _ => n - (intOf iv).toNat)
  case atStart => exact ⟨0, [], _, by omega, rfl, Lib.hid (by simp [ds]), OwnE.nil _ _ _ _, HR0.out, HX0.out, HM0.out, Held.nil _ _ _, HMD.out⟩
  case round =>
    clear HR0 HX0 HM0 HMD
    obtain ⟨k, ys, vo, hk, rfl, HYX, hown, hr, hx, hm, hheld, hmod⟩ := hrel
    have hylen : ys.length = k := by
      have := congrArg List.length HYX.out
      have := HN.out
      simp [ds] at *; omega
    obtain ⟨po, co, rfl, hrd, hpb⟩ := hown.rd
    have HPB := Lib.hid hpb
    clear hpb
    rw [List.length_map, hylen] at hown hx
    have HOWN := Lib.hid hown
    have HR := Lib.hid hr
    have HX := Lib.hid hx
    have HM := Lib.hid hm
    have HHELD := Lib.hid hheld
    have HMOD := Lib.hid hmod
    have HYL := Lib.hid hylen
    have HRD := Lib.hid hrd
    clear hown hr hx hm hheld hmod hylen hrd
    by_cases hlt : k < n
    · obtain ⟨x, hxk⟩ : ∃ x, xs[k]? = some x := ⟨xs[k]'(by have := HN.out; omega), List.getElem?_eq_getElem _⟩
      have hxs := HV.out.small x (List.mem_of_getElem? hxk)
      obtain ⟨b, o, rfl, hc⟩ := HV.out.rd.cell k x hxk
      have HXR := Lib.hid (HV.out.each x (List.mem_of_getElem? hxk))
      have HXK := Lib.hid hxk
      unfold SlR.v at hc
      have HC := Lib.hid hc
      have hcr := cell_mod0 HMOD.out hc
      have q0 : (0 : Int) ≤ (k : Int) := by omega
      have q1 : (k : Int) < (n : Int) := by omega
      clear hxk hc
      go_wp2_with fail
      refine (lent_any x.p x.cap x.d wr (HXR.out.mod0 HMOD.out) (by omega)).mono ?_
      rintro e w3 ⟨rfl, hg, m3⟩
      obtain ⟨g, hgd⟩ : ∃ g, g = wr.heap.size := ⟨_, rfl⟩
      rw [← hgd] at hg
      have HGD := Lib.hid hgd
      have hgm : m < g := by rw [hgd]; exact lt_of_block HM.out
      have hnew : ∀ y ∈ ys, ∀ g', y.p = some ⟨g', 0, none⟩ → g' ≠ g := fun y hy g' hg' => by
        have := (HHELD.out.at_ y hy).lt hg'
        omega
      have HHELD3 := Lib.hid ((HHELD.out.mod0 m3).snoc hg (by omega) hnew)
      have HOWN3 := Lib.hid (HOWN.out.mod0 m3)
      have HR3 := Lib.hid (m3.get0 HR.out)
      have HX3 := Lib.hid (m3.get0 HX.out)
      have HM3 := Lib.hid (m3.get0 HM.out)
      have HMOD3 := Lib.hid (HMOD.out.trans0 m3)
      have hx1 : w3.cell? ⟨xb, 1, none⟩ = some (.slice po k co) := by rw [cell_blk HX3.out]; rfl
      clear hg m3 hnew hcr
      go_wp2_with (at_builtin; with_reducible refine froz_app _ _ rfl ?_)
      unfold Froz
      rw [← HGD.out]
      have hv : SlR.v (wide 70 ⟨some ⟨g, 0, none⟩, x.d.length + 70, x.d⟩) = .slice (some ⟨g, 0, none⟩) (x.d.length + 70) (x.d.length + 70) := by simp [SlR.v, wide, marks_length]
      refine pushL rfl _ _ rfl (m + 1) _ (ys.map (wide 70)) (HOWN3.out.alloc _) rfl w3.heap.size (wide 70 ⟨some ⟨g, 0, none⟩, x.d.length + 70, x.d⟩) rfl (by rw [hv]; exact hp_new _ _ _ rfl) (by rw [List.length_map, HYL.out]; omega) (by have h1 := lt_of_block HM3.out; simp; omega) ?_
      intro v' w5 ho5 hg5
      have MA := (Mod.refl [] w3).alloc (.cells #[Value.slice (some ⟨g, 0, none⟩) (x.d.length + 70) (x.d.length + 70)] 22)
      have M5 : Mod [] w w5 := (HMOD3.out.trans0 MA).of_grown hg5 (fun r hr => .inr (by have := HOWN3.out.row r hr; have := HMW.out; omega))
      have hne : ∀ r, r ≤ m → w3.heap.size ≤ r ∨ (Value.slice po k co).ownBlock ≠ some r := fun r hr => .inr (fun hx => by have := HOWN3.out.row r hx; omega)
      have hm3 := lt_of_block HM3.out
      have keep : ∀ (r : Nat) (O : Obj), r ≤ m → w3.heap[r]? = some O → w5.heap[r]? = some O := fun r O hr hO => (hg5.block r (by simp; omega) (fun hx => by have := HOWN3.out.row r hx.symm; omega)).trans (MA.get0 hO)
      have HM5 := Lib.hid (keep m _ (Nat.le_refl _) HM3.out)
      have HR5 := Lib.hid (keep _ _ (by have := HMW.out; omega) HR3.out)
      have HX5 := Lib.hid (keep xb _ (by have := HMW.out; have := HXB.out; omega) HX3.out)
      have HHELD5 := Lib.hid (HHELD3.out.grown MA hg5 HOWN3.out)
      obtain ⟨p5, c5, rfl, hrd5, hp5⟩ := ho5.rd
      have hl5 : (ys.map (wide 70) ++ [wide 70 ⟨some ⟨g, 0, none⟩, x.d.length + 70, x.d⟩]).length = k + 1 := by have := HYL.out; simp; omega
      rw [hl5] at ho5 ⊢
      have HOWN5 := Lib.hid ho5
      have HM5D := Lib.hid M5
      have hxc : w5.cell? ⟨xb, 1, none⟩ = some (.slice po k co) := by rw [cell_blk HX5.out]; rfl
      have hxf : w5.frozen? ⟨xb, 1, none⟩ = false := frozen_blk HX5.out 1
      clear ho5 hg5 MA M5 hne keep hrd5 hp5 hx1 HOWN3 HHELD3 HR3 HX3 HM3 hm3 hl5
      go_wp2_with fail
      rw [← HGD.out]
      have hset : Mod [xb] w5 (w5.setCell ⟨xb, 1, none⟩ (.slice p5 (k + 1) c5)) := (Mod.refl [xb] w5).setCell (.inl (by simp)) _
      have hxbm : xb < m := by have := HMW.out; have := HXB.out; omega
      refine abs_w (C := fun W => Code.wp _ _ _ _ W) (fun W => W.heap[w.heap.size]? = some (.cells #[.slice none 0 0, .slice none 0 0, .int .i64 0] 35) ∧ W.heap[xb]? = some (.cells #[.slice (some ⟨m, 0, none⟩) (n + 9) (n + 9), .slice p5 (k + 1) c5, .int .i64 n] 35) ∧ W.heap[m]? = some (.cells (mineOf ys [] (n + 9 - k)).toArray 22) ∧ Held 70 W (m + 1) (ys ++ [⟨some ⟨g, 0, none⟩, x.d.length + 70, x.d⟩]) ∧ OwnL W (m + 1) (.slice p5 (k + 1) c5) (ys.map (wide 70) ++ [wide 70 ⟨some ⟨g, 0, none⟩, x.d.length + 70, x.d⟩]) ∧ Mod [] w W)
        ⟨hset.get HR5.out (by have := HXB.out; simp; omega), ?_, hset.get HM5.out (by simp; omega), HHELD5.out.mod hset (fun y hy r hr => by obtain ⟨_, g', h1, h2, _⟩ := HHELD5.out.at_ y hy; rw [hr] at h1; injection h1 with h1; injection h1 with h1; simp; omega), HOWN5.out.mod hset (fun r hr hb => by simp at hr; have := HOWN5.out.row r hb; omega), HM5D.out.setCell (.inr (by have := HXB.out; simp only; omega)) _⟩ ?_
      · have h := hp_sc (j := 1) (v := Value.slice p5 (k + 1) c5) HX5.out
        exact h
      rintro W6 ⟨hr6, hx6, hm6, hh6, ho6, md6⟩
      have HR6 := Lib.hid hr6
      have HX6 := Lib.hid hx6
      have HM6 := Lib.hid hm6
      have HH6 := Lib.hid hh6
      have HO6 := Lib.hid ho6
      have HMD6 := Lib.hid md6
      have hx60 : W6.cell? ⟨xb, 0, none⟩ = some (.slice (some ⟨m, 0, none⟩) (n + 9) (n + 9)) := by rw [cell_blk HX6.out]; rfl
      have hcr6 := cell_mod0 HMD6.out HC.out
      have hcm : W6.cell? ⟨m, k, none⟩ = some (SlR.v nilSl) := by
        rw [cell_blk HM6.out, List.getElem?_toArray]
        have := HYL.out
        exact mine_cell3 (by simp; omega) (by simp; omega)
      have hfm : W6.frozen? ⟨m, k, none⟩ = false := frozen_blk HM6.out k
      have q2 : (k : Int) < (n : Int) + 9 := by omega
      have q3 : (x.d.length : Int) ≤ (x.d.length : Int) + 70 := by omega
      have q4 : (0 : Int) ≤ (x.d.length : Int) := by omega
      clear hr6 hx6 hm6 hh6 ho6 md6 hset HM5 HR5 HX5 HHELD5 HOWN5 HM5D hxc hxf
      go_wp2_with fail
      go_region
      go_wp2_with fail
      go_roundw
      case rel =>
        rw [← HGD.out]
        have hset : Mod [m] W6 (W6.setCell ⟨m, k, none⟩ (Value.slice (some ⟨g, 0, none⟩) x.d.length (x.d.length + 70))) := (Mod.refl [m] W6).setCell (.inl (by simp)) _
        refine ⟨k + 1, ys ++ [⟨some ⟨g, 0, none⟩, x.d.length + 70, x.d⟩], _, by omega, by go_num, Lib.hid ?_, ?_, hp_drew (hset.get HR6.out (by have := HMW.out; simp; omega)), hp_drew (hset.get HX6.out (by simp; omega)), hp_drew ?_, (HH6.out.mod hset (fun y hy r hr => ?_)).mod0 (Mod.refl [] _).drew, (HMD6.out.setCell (.inr (by have := HMW.out; simp only; omega)) _).drew⟩
        · have h := HYX.out
          unfold ds at h ⊢
          rw [List.map_append, h, List.take_add_one, List.getElem?_map, HXK.out]; rfl
        · rw [List.map_append]
          exact (HO6.out.mod hset (fun r hr hb => by simp at hr; have := HO6.out.row r hb; omega)).drew
        · have h := hp_sc (j := k) (v := (Value.slice (some ⟨g, 0, none⟩) x.d.length (x.d.length + 70))) HM6.out
          have hr : n + 9 - k = (n + 9 - (k + 1)) + 1 := by omega
          have hm2 := mine_set (ys := ys) (r := n + 9 - (k + 1)) ⟨some ⟨g, 0, none⟩, x.d.length + 70, x.d⟩
          rw [hr] at h
          rw [HYL.out] at hm2
          rw [List.setIfInBounds_toArray] at h
          exact h.trans (by rw [← hm2]; rfl)
        · obtain ⟨_, g', h1, h2, _⟩ := HH6.out.at_ y hy
          rw [hr] at h1; injection h1 with h1; injection h1 with h1
          simp; omega
      case measure => simp [intOf]; omega
    · have hkk : k = n := by omega
      subst hkk
      have hd : decide ((k : Int) < (k : Int)) = false := by simp
      have HYL2 := Lib.hid (show ds ys = ds xs from by
        have h := HYX.out
        rwa [List.take_of_length_le (by have := HN.out; simp [ds]; omega)] at h)
      have hx0 : wr.cell? ⟨xb, 0, none⟩ = some (.slice (some ⟨m, 0, none⟩) (k + 9) (k + 9)) := by rw [cell_blk HX.out]; rfl
      have hcv := conv_const
      have HM9 := Lib.hid (show wr.heap[m]? = some (.cells (mineOf ys [] 9).toArray 22) from by have h := HM.out; rwa [Nat.add_sub_cancel_left] at h)
      go_wp2_with fail
      obtain ⟨wo, hwo⟩ : ∃ wo, wo = wr := ⟨_, rfl⟩
      rw [← hwo] at HM9 HR HX HHELD HMOD HOWN HRD ⊢
      clear hwo hx0 HM
      go_loopw [6] (fun iv wr => ∃ (j : Nat) (ms : List SlR), j ≤ 9 ∧ iv = .int .i64 ((k : Int) + j) ∧ Hid (ms.length = j) ∧ wr.heap[m]? = some (.cells (mineOf ys ms (9 - j)).toArray 22) ∧ Hid (∀ y ∈ ms, MkAt wr y) ∧ Mod [m] wo wr) (fun iv _ => k + 9 - (intOf iv).toNat)
      case atStart => exact ⟨0, [], by omega, by simp, Lib.hid rfl, HM9.out, Lib.hid (by simp), Mod.refl _ _⟩
      case round =>
        obtain ⟨j, ms, hj, rfl, HML, hm, HMS, hmo⟩ := hrel
        have HMM := Lib.hid hm
        have HMO := Lib.hid hmo
        have HXX := Lib.hid (hmo.get HX.out (by simp; omega))
        have hx0 : wr.cell? ⟨xb, 0, none⟩ = some (.slice (some ⟨m, 0, none⟩) (k + 9) (k + 9)) := by rw [cell_blk HXX.out]; rfl
        clear hm hmo
        obtain ⟨t, ht⟩ : ∃ t, t = k + j := ⟨_, rfl⟩
        have htz : (k : Int) + (j : Int) = (t : Int) := by omega
        rw [htz]
        by_cases hlj : j < 9
        · have hcm := fun (O : Obj) => cell_mod0 ((Mod.refl [] wr).alloc O) (show wr.cell? ⟨m, t, none⟩ = some (SlR.v nilSl) from by
            rw [cell_blk HMM.out, List.getElem?_toArray]
            have := HYL.out
            have := HML.out
            exact mine_cell3 (by omega) (by omega))
          have hfm := fun (O : Obj) => frozen_blk (hp_old (o := O) HMM.out) t
          have hx0a := fun (O : Obj) => cell_mod0 ((Mod.refl [] wr).alloc O) hx0
          have r0 : (0 : Int) ≤ (t : Int) := by omega
          have r1 : (t : Int) < (k : Int) + 9 := by omega
          have HT := Lib.hid ht
          have HTZ := Lib.hid htz
          clear ht htz
          go_wp2_with fail
          go_roundw
          case rel =>
            have hlt3 := lt_of_block HMM.out
            have hML := HML.out
            have hYL := HYL.out
            have hHT := HT.out
            have hset : Mod [m] (wr.alloc (.cells #[Value.int .u8 109, Value.int .u8 97, Value.int .u8 114, Value.int .u8 107] 5 (4, 5))) ((wr.alloc (.cells #[Value.int .u8 109, Value.int .u8 97, Value.int .u8 114, Value.int .u8 107] 5 (4, 5))).setCell ⟨m, t, none⟩ (Value.slice (some ⟨wr.heap.size, 0, none⟩) 4 4)) := (Mod.refl [m] _).setCell (.inl (by simp)) _
            have hal := (Mod.refl [] wr).alloc (.cells #[Value.int .u8 109, Value.int .u8 97, Value.int .u8 114, Value.int .u8 107] 5 (4, 5))
            have hnw := hset.get (hp_new wr _ _ rfl) (by simp; omega)
            refine ⟨j + 1, ms ++ [⟨some ⟨wr.heap.size, 0, none⟩, 4, [109, 97, 114, 107]⟩], by omega, by have := HTZ.out; congr 1; omega, Lib.hid (by simp; omega), ?_, Lib.hid ?_, (HMO.out.trans0 hal).trans hset (fun x hx => .inl hx)⟩
            · have h := hp_sc (j := t) (v := (Value.slice (some ⟨wr.heap.size, 0, none⟩) 4 4)) (hal.get0 HMM.out)
              have hm2 := mine_set2 (ys := ys) (mk := ms) (r := 9 - (j + 1)) ⟨some ⟨wr.heap.size, 0, none⟩, 4, [109, 97, 114, 107]⟩
              rw [show 9 - j = (9 - (j + 1)) + 1 by omega] at h
              rw [hYL, hML, ← hHT] at hm2
              rw [List.setIfInBounds_toArray] at h
              exact h.trans (by rw [← hm2]; rfl)
            · intro y hy
              rcases List.mem_append.1 hy with hy | hy
              · obtain ⟨h1, h2⟩ := HMS.out y hy
                refine ⟨h1, ?_⟩
                have h3 := h2.mod0 hal
                refine h3.mod hset (fun hne p hp hx => ?_)
                obtain ⟨b, o, e, hrr⟩ := h3.at_ hne
                rw [hp] at e
                injection e with e
                subst e
                simp only [List.mem_singleton] at hx
                subst hx
                rw [h1] at hrr
                have h4 := hrr 0 (V8 109) rfl
                rw [cell_blk (hal.get0 HMM.out), List.getElem?_toArray] at h4
                unfold mineOf at h4
                rw [List.getElem?_map] at h4
                cases hq : (ys ++ ms ++ List.replicate (9 - j) nilSl)[o + 0]? with
                | none => rw [hq] at h4; cases h4
                | some v => rw [hq] at h4; simp only [Option.map_some, Option.some.injEq] at h4; cases h4
              · rw [List.mem_singleton] at hy; subst hy
                exact ⟨rfl, Rd.of_blk (o := 0) hnw (fun j v hv => by simpa [V8] using hv) (by simp)⟩
          case measure => have := HTZ.out; simp [intOf]; omega
        · have hj9 : j = 9 := by omega
          subst hj9
          have hd : decide ((t : Int) < (k : Int) + 9) = false := by simp; omega
          have hrr : wr.heap[w.heap.size]? = some (.cells #[.slice none 0 0, .slice none 0 0, .int .i64 0] 35) := HMO.out.get HR.out (by have := HMW.out; simp; omega)
          have hx1 : wr.cell? ⟨xb, 1, none⟩ = some (.slice po k co) := by rw [cell_blk HXX.out]; rfl
          have hr0 : wr.cell? ⟨w.heap.size, 0, none⟩ = some (.slice none 0 0) := by rw [cell_blk hrr]; rfl
          have hr1 : wr.cell? ⟨w.heap.size, 1, none⟩ = some (.slice none 0 0) := by rw [cell_blk hrr]; rfl
          have hr2 : wr.cell? ⟨w.heap.size, 2, none⟩ = some (.int .i64 0) := by rw [cell_blk hrr]; rfl
          have hf0 : wr.frozen? ⟨w.heap.size, 0, none⟩ = false := frozen_blk hrr 0
          have hf1 : wr.frozen? ⟨w.heap.size, 1, none⟩ = false := frozen_blk hrr 1
          have hf2 : wr.frozen? ⟨w.heap.size, 2, none⟩ = false := frozen_blk hrr 2
          have hx2 : wr.cell? ⟨xb, 2, none⟩ = some (.int .i64 k) := by rw [cell_blk HXX.out]; rfl
          clear ht htz
          go_wp2_with fail
          have hb : (((wr.setCell ⟨w.heap.size, 0, none⟩ (.slice (some ⟨m, 0, none⟩) (k + 9) (k + 9))).setCell ⟨w.heap.size, 1, none⟩ (.slice po k co)).setCell ⟨w.heap.size, 2, none⟩ (.int .i64 k)).heap[w.heap.size]? = some (.cells #[.slice (some ⟨m, 0, none⟩) (k + 9) (k + 9), .slice po k co, .int .i64 k] 35) := hp_sc (hp_sc (hp_sc hrr))
          have hmod : Mod [w.heap.size] wr (((wr.setCell ⟨w.heap.size, 0, none⟩ (.slice (some ⟨m, 0, none⟩) (k + 9) (k + 9))).setCell ⟨w.heap.size, 1, none⟩ (.slice po k co)).setCell ⟨w.heap.size, 2, none⟩ (.int .i64 k)) := (((Mod.refl _ wr).setCell (.inl (by simp)) _).setCell (.inl (by simp)) _).setCell (.inl (by simp)) _
          refine bodyPost_ret (results_cell_row rfl _ _ _ _ _ _ _ rfl hb Tryd.underlying35 rfl (by kernel_rfl)) rfl ?_
          generalize (((wr.setCell ⟨w.heap.size, 0, none⟩ (.slice (some ⟨m, 0, none⟩) (k + 9) (k + 9))).setCell ⟨w.heap.size, 1, none⟩ (.slice po k co)).setCell ⟨w.heap.size, 2, none⟩ (.int .i64 k)) = w9 at hb hmod ⊢
          have hmw := HMW.out
          have hMO : Mod [m, w.heap.size] wo w9 := (HMO.out.mono (fun x hx => .inl (by simp only [List.mem_singleton] at hx; simp [hx]))).trans hmod (fun x hx => .inl (by simp only [List.mem_singleton] at hx; simp [hx]))
          have hbig : ∀ x ∈ [m, w.heap.size], x ≤ m := by intro x hx; simp only [List.mem_cons, List.not_mem_nil, or_false] at hx; rcases hx with rfl | rfl <;> omega
          refine ⟨m, po, co, ys, rfl, HYL2.out, ⟨HRD.out.mod hMO (fun _ p hp hx => ?_), ⟨ms, HML.out, ?_, fun y hy => ?_⟩, ?_, by omega⟩, HMOD.out.trans hMO (fun x hx => .inr ?_)⟩
          · have h1 := HPB.out p hp
            have h2 := hbig _ hx
            omega
          · exact hmod.get HMM.out (by simp; omega)
          · obtain ⟨h1, h2⟩ := HMS.out y hy
            refine ⟨h1, h2.mod hmod (fun hne p hp hx => ?_)⟩
            obtain ⟨b, o, e, hrr2⟩ := h2.at_ hne
            rw [hp] at e
            injection e with e
            subst e
            simp only [List.mem_singleton] at hx
            subst hx
            rw [h1] at hrr2
            have h4 := hrr2 0 (V8 109) rfl
            rw [cell_blk hrr] at h4
            rcases o with _ | _ | _ | o
            · cases h4
            · cases h4
            · simp [V8] at h4
            · simp at h4
          · have h := HHELD.out.mod hMO (fun y hy r hr hx => by
              obtain ⟨_, g', h1, h2, _⟩ := HHELD.out.at_ y hy
              rw [hr] at h1; injection h1 with h1; injection h1 with h1
              have := hbig _ hx
              omega)
            exact ⟨fun y hy => let ⟨h0, g, h1, h2, h3⟩ := h.at_ y hy; ⟨h0, g, h1, by omega, h3⟩, h.apart⟩
          · simp only [List.mem_cons, List.not_mem_nil, or_false] at hx
            rcases hx with rfl | rfl <;> omega
end Go.Proofs.YtbbobpjcbnfpfaaDoor
namespace Go.Proofs.YtbbobpjcbnfpfaaDoor
open Go.RowKit
attribute [local go_sem high] one8 st8 cm8 b_and8 b_and8r b_and8l b_or8 b_or8r b_or8l b_xor8 b_xor8r b_xor8l b_andNot8 b_andNot8r b_andNot8l b_add8 b_add8r b_add8l b_sub8 b_sub8r b_sub8l b_mul8 b_mul8r b_mul8l b_eql8 b_eql8r b_eql8l b_neq8 b_neq8r b_neq8l b_lss8 b_lss8r b_lss8l b_leq8 b_leq8r b_leq8l b_gtr8 b_gtr8r b_gtr8l b_geq8 b_geq8r b_geq8l b_quo8r b_rem8r b_shl8r b_shr8r b_shl8l b_shr8l u_xor8 g_eql8 g_neq8 g_eql8' g_neq8' one32 st32 cm32 b_and32 b_and32r b_and32l b_or32 b_or32r b_or32l b_xor32 b_xor32r b_xor32l b_andNot32 b_andNot32r b_andNot32l b_add32 b_add32r b_add32l b_sub32 b_sub32r b_sub32l b_mul32 b_mul32r b_mul32l b_eql32 b_eql32r b_eql32l b_neq32 b_neq32r b_neq32l b_lss32 b_lss32r b_lss32l b_leq32 b_leq32r b_leq32l b_gtr32 b_gtr32r b_gtr32l b_geq32 b_geq32r b_geq32l b_quo32r b_rem32r b_shl32r b_shr32r b_shl32l b_shr32l u_xor32 g_eql32 g_neq32 g_eql32' g_neq32' one64 st64 cm64 b_and64 b_and64r b_and64l b_or64 b_or64r b_or64l b_xor64 b_xor64r b_xor64l b_andNot64 b_andNot64r b_andNot64l b_add64 b_add64r b_add64l b_sub64 b_sub64r b_sub64l b_mul64 b_mul64r b_mul64l b_eql64 b_eql64r b_eql64l b_neq64 b_neq64r b_neq64l b_lss64 b_lss64r b_lss64l b_leq64 b_leq64r b_leq64l b_gtr64 b_gtr64r b_gtr64l b_geq64 b_geq64r b_geq64l b_quo64r b_rem64r b_shl64r b_shr64r b_shl64l b_shr64l u_xor64 g_eql64 g_neq64 g_eql64' g_neq64' c_u8_u8 c_u8_u32 c_u8_u64 c_i_u8 c_u32_u8 c_u32_u32 c_u32_u64 c_i_u32 c_u64_u8 c_u64_u32 c_u64_u64 c_i_u64 c_u8_i c_u32_i
attribute [local go_sem ↓] ce8 ce32 ce64
attribute [local go_sem ↓] sliced_slp loadO26 storeO26
theorem Loan.mod0 {a w : World} {B m co : Nat} {po : Option Addr} {ys : List SlR} (h : Loan a B m po co ys) (k : Mod [] a w) : Loan w B m po co ys := by
  obtain ⟨ms, h1, h2, h3⟩ := h.mine
  exact ⟨h.own.mod0 k, ⟨ms, h1, k.get0 h2, fun y hy => ⟨(h3 y hy).1, (h3 y hy).2.mod0 k⟩⟩, h.held.mod0 k, h.le⟩
set_option maxRecDepth 100000 in
set_option maxHeartbeats 1000000 in
theorem back_any (xs : List SlR) (p : Option Addr) (c n : Nat) (w : World) (hn : n = xs.length) (h : Lv w p c xs) (hn4 : n ≤ 1048576) (B m co : Nat) (po : Option Addr) (ys : List SlR) (hL : Loan w B m po co ys) (hd : ds ys = ds xs) :
    Calls Tryd.prog 21 #[loanV m po co n, .slice p n c] w fun e w' => e = .returned (.bool true) ∧ Mod [] w w' := by
  have HV := Lib.hid h
  have HN := Lib.hid hn
  have HL := Lib.hid hL
  have HD := Lib.hid hd
  have hyl : ys.length = n := by
    have := congrArg List.length hd
    simp [ds] at *; omega
  have HYL := Lib.hid hyl
  clear h hn hL hd hyl
  unfold loanV
  go_enter Tryd.func21, Tryd.ntmps21
  go_wp2_with fail
  have hb0 : (w.alloc (.cells #[.slice (some ⟨m, 0, none⟩) (n + 9) (n + 9), .slice po n co, .int .i64 n] 35)).heap[w.heap.size]? = some (.cells #[.slice (some ⟨m, 0, none⟩) (n + 9) (n + 9), .slice po n co, .int .i64 n] 35) := hp_new w _ _ rfl
  have hm0 := (Mod.refl [] w).alloc (.cells #[.slice (some ⟨m, 0, none⟩) (n + 9) (n + 9), .slice po n co, .int .i64 n] 35)
  have HB0 := Lib.hid hb0
  have HM0 := Lib.hid hm0
  clear hb0 hm0
  go_loopw [5, 6] (fun iv u wr => ∃ i : Nat, i ≤ n ∧ iv = .int .i64 i ∧ wr.heap[w.heap.size]? = some (.cells #[.slice (some ⟨m, 0, none⟩) (n + 9) (n + 9), .slice po n co, .int .i64 n] 35) ∧ Mod [] w wr) (fun iv _ _ => n - (intOf iv).toNat)
  case atStart => exact ⟨0, by omega, rfl, HB0.out, HM0.out⟩
  case round =>
    obtain ⟨i, hi, rfl, hb, hm⟩ := hrel
    have HB := Lib.hid hb
    have HM := Lib.hid hm
    have hx0 : wr.cell? ⟨w.heap.size, 0, none⟩ = some (.slice (some ⟨m, 0, none⟩) (n + 9) (n + 9)) := by rw [cell_blk hb]; rfl
    have hx1 : wr.cell? ⟨w.heap.size, 1, none⟩ = some (.slice po n co) := by rw [cell_blk hb]; rfl
    clear hb hm HB0 HM0
    by_cases hlt : i < n
    · obtain ⟨x, hxk⟩ : ∃ x, xs[i]? = some x := ⟨xs[i]'(by have := HN.out; omega), List.getElem?_eq_getElem _⟩
      obtain ⟨y, hyk⟩ : ∃ y, ys[i]? = some y := ⟨ys[i]'(by have := HYL.out; omega), List.getElem?_eq_getElem _⟩
      have hyx : y.d = x.d := by
        have h1 := congrArg (·[i]?) HD.out
        simpa [ds, hyk, hxk] using h1
      have hxs := HV.out.small x (List.mem_of_getElem? hxk)
      obtain ⟨b, o, rfl, hcr⟩ := (HV.out.rd.mod0 HM.out).cell i x hxk
      unfold SlR.v at hcr
      have hxr := (HV.out.each x (List.mem_of_getElem? hxk)).mod0 HM.out
      have hL := HL.out.mod0 HM.out
      obtain ⟨g, hye, _, hgb⟩ := of_held hL.held i y hyk
      rw [hyx] at hye hgb
      obtain ⟨ms, _, hmine, _⟩ := hL.mine
      have hcm : wr.cell? ⟨m, i, none⟩ = some (.slice (some ⟨g, 0, none⟩) x.d.length (x.d.length + 70)) := by
        rw [cell_blk hmine, List.getElem?_toArray, mine_cell i y hyk, hye]
        rfl
      obtain ⟨bo, oo, rfl, hco⟩ := hL.own.cell i (wide 70 y) (by rw [List.getElem?_map, hyk]; rfl)
      have hwv : SlR.v (wide 70 y) = .slice (some ⟨g, 0, none⟩) (x.d.length + 70) (x.d.length + 70) := by rw [hye]; simp [SlR.v, wide, marks_length]
      rw [hwv] at hco
      have hkq := fun (t : Nat) => kept_q g (x.d.length + 70) x.d x.p x.cap x.d (x.d.length + 70) rfl rfl (wr.drewN t) (rd_whole (hp_drewN hgb) (by simp [marks_length])) (hxr.mod0 ((Mod.refl [] wr).drewN t)) (by omega)
      simp only [beq_self_eq_true] at hkq
      have HKQ := Lib.hid hkq
      have HSA := Lib.hid (fun (wq : World) (hq : Mod [] wr wq) (t : Nat) => str_rd (w := wq.drewN t) (rd_front (cap := x.d.length + 70) (hp_drewN (hq.get0 hgb)) (by omega)) x.d.length rfl)
      have HSB := Lib.hid (fun (wq : World) (hq : Mod [] wr wq) (t : Nat) => str_rd (w := wq.drewN t) (hxr.mod0 (hq.drewN t)) x.d.length rfl)
      have q0 : (0 : Int) ≤ (i : Int) := by omega
      have q1 : (i : Int) < (n : Int) := by omega
      have q2 : (i : Int) < (n : Int) + 9 := by omega
      clear hxk hyk hyx hxr hL hye hgb hmine hwv hkq
      go_wp2_with fail
      go_quiet ((go_at_call 16; exact Calls.quiet_of (HKQ.out _)))
      go_wp2_with fail
      obtain ⟨wq, hwq⟩ : ∃ wq, wq = wr.drewN nq := ⟨_, rfl⟩
      have hmq := (Mod.refl [] wr).drewN nq
      rw [← hwq] at hmq ⊢
      have hsa := HSA.out wq hmq
      have hsb := HSB.out wq hmq
      have k0 := cell_mod0 hmq hx0
      have k1 := cell_mod0 hmq hcr
      have k2 := cell_mod0 hmq hcm
      have HMQ := Lib.hid hmq
      clear hwq hmq hcr hcm hco hx0 hx1 HKQ HSA HSB
      go_quiet (fail)
      go_wp2_with fail
      go_roundw
      case rel => exact ⟨i + 1, by omega, by go_num, HMQ.out.get0 HB.out, HM.out.trans0 (HMQ.out.drewN _)⟩
      case measure => simp [intOf]; omega
    · have hin : i = n := by omega
      subst hin
      have hd : decide ((i : Int) < (i : Int)) = false := by simp
      go_wp2_with fail
      obtain ⟨wo, hwo⟩ : ∃ wo, wo = wr := ⟨_, rfl⟩
      rw [← hwo] at HB HM ⊢
      clear hwo hx0 hx1
      go_loopw [7] (fun iv wr => ∃ j : Nat, j ≤ 9 ∧ iv = .int .i64 ((i : Int) + j) ∧ Mod [] wo wr) (fun iv _ => i + 9 - (intOf iv).toNat)
      case atStart => exact ⟨0, by omega, by simp, Mod.refl _ _⟩
      case round =>
        obtain ⟨j, hj, rfl, hmo⟩ := hrel
        have HMO := Lib.hid hmo
        have hx0 : wr.cell? ⟨w.heap.size, 0, none⟩ = some (.slice (some ⟨m, 0, none⟩) (i + 9) (i + 9)) := by rw [cell_blk (hmo.get0 HB.out)]; rfl
        obtain ⟨t, ht⟩ : ∃ t, t = i + j := ⟨_, rfl⟩
        have htz : (i : Int) + (j : Int) = (t : Int) := by omega
        rw [htz]
        by_cases hlj : j < 9
        · obtain ⟨ms, hml, hmine, hmk⟩ := (HL.out.mod0 (HM.out.trans0 hmo)).mine
          obtain ⟨y, hy⟩ : ∃ y, ms[j]? = some y := ⟨ms[j]'(by omega), List.getElem?_eq_getElem _⟩
          obtain ⟨hyd, hyr⟩ := hmk y (List.mem_of_getElem? hy)
          have hcm : wr.cell? ⟨m, t, none⟩ = some (.slice y.p 4 y.cap) := by
            rw [cell_blk hmine, List.getElem?_toArray, ht]
            have h2 := mine_cell2 (ys := ys) (mk := ms) (r := 0) j y hy
            rw [HYL.out] at h2
            rw [h2]
            simp [SlR.v, hyd]
          rw [hyd] at hyr
          have hst := str_rd hyr 4 rfl
          have r0 : (0 : Int) ≤ (t : Int) := by omega
          have r1 : (t : Int) < (i : Int) + 9 := by omega
          have HTZ := Lib.hid htz
          clear ht htz hml hmine hmk hy hyd hyr hmo
          go_wp2_with fail
          go_roundw
          case rel => exact ⟨j + 1, by omega, by have := HTZ.out; congr 1; omega, HMO.out⟩
          case measure => have := HTZ.out; simp [intOf]; omega
        · have hj9 : j = 9 := by omega
          subst hj9
          have hd : decide ((t : Int) < (i : Int) + 9) = false := by simp; omega
          clear ht htz hmo
          go_wp2_with fail
          go_ret
          exact ⟨rfl, HM.out.trans0 HMO.out⟩
/-- The blocks of leaves. -/
def blks (ys : List SlR) : List Nat := ys.map fun y => (y.p.map (·.block)).getD 0
theorem blk_mem {ys : List SlR} {y : SlR} {g : Nat} (h : y ∈ ys) (hp : y.p = some ⟨g, 0, none⟩) : g ∈ blks ys := List.mem_map.2 ⟨y, h, by rw [hp]; rfl⟩
theorem held_blk {w : World} {B : Nat} {ys : List SlR} (h : Held 70 w B ys) {g : Nat} (hg : g ∈ blks ys) : B ≤ g ∧ ∃ d : List UInt8, w.heap[g]? = some (.cells (d.map V8).toArray 5) := by
  obtain ⟨y, hy, rfl⟩ := List.mem_map.1 hg
  obtain ⟨_, g, h1, h2, h3⟩ := h.at_ y hy
  rw [h1]
  exact ⟨h2, _, h3⟩
theorem not_blk {w : World} {B : Nat} {ys : List SlR} (h : Held 70 w B ys) {b : Nat} {C : Array Value} {t : TypeId} {fr : Nat × Nat} (hb : w.heap[b]? = some (.cells C t fr)) (ht : t ≠ 5) : b ∉ blks ys := by
  intro hx
  obtain ⟨_, d, hd⟩ := held_blk h hx
  rw [hb] at hd
  injection hd with hd
  injection hd with _ h2 _
  exact ht h2
theorem own_off {w : World} {B m co : Nat} {po : Option Addr} {ys : List SlR} (h : Loan w B m po co ys) : ys.map (wide 70) ≠ [] → Off po (blks ys) := by
  intro hne p hp hx
  obtain ⟨_, d, hd⟩ := held_blk h.held hx
  obtain ⟨x, l, hxl⟩ := List.exists_cons_of_ne_nil hne
  obtain ⟨b, o, e, hc⟩ := h.own.cell 0 x (by rw [hxl]; rfl)
  rw [hp] at e; injection e with e; subst e
  rw [cell_blk hd, List.getElem?_toArray, List.getElem?_map] at hc
  cases hq : d[o + 0]? with
  | none => rw [hq] at hc; cases hc
  | some v => rw [hq] at hc; simp only [Option.map_some, Option.some.injEq] at hc; cases hc
/-- Leaves with other bytes. -/
def putD (ys zs : List SlR) : List SlR := List.zipWith (fun y z => (⟨y.p, y.cap, z.d⟩ : SlR)) ys zs
structure Wrote (w : World) (B m : Nat) (ys zs : List SlR) (w' : World) : Prop where
  held : Held 70 w' B (putD ys zs)
  mine : ∃ ms : List SlR, ms.length = 9 ∧ w'.heap[m]? = some (.cells (mineOf (putD ys zs) ms 0).toArray 22)
  md : Mod (blks ys) w w'
theorem putD_v {ys zs : List SlR} (h : (ds ys).map List.length = (ds zs).map List.length) : (putD ys zs).map SlR.v = ys.map SlR.v := by
  induction ys generalizing zs with
  | nil => simp [putD]
  | cons y ys ih =>
    cases zs with
    | nil => simp [ds] at h
    | cons z zs =>
      simp only [ds, List.map_cons, List.cons.injEq] at h
      have := ih (zs := zs) (by simpa [ds] using h.2)
      simp only [putD, List.zipWith_cons_cons, List.map_cons] at this ⊢
      rw [this]
      simp [SlR.v, h.1]
theorem putD_ds {ys zs : List SlR} (h : ys.length = zs.length) : ds (putD ys zs) = ds zs := by
  induction ys generalizing zs with
  | nil => cases zs with
    | nil => rfl
    | cons z zs => simp at h
  | cons y ys ih =>
    cases zs with
    | nil => simp at h
    | cons z zs =>
      have := ih (zs := zs) (by simpa using h)
      simp only [putD, ds, List.zipWith_cons_cons, List.map_cons] at this ⊢
      rw [this]
theorem putD_get {ys zs : List SlR} (i : Nat) (y z : SlR) (hy : ys[i]? = some y) (hz : zs[i]? = some z) : (putD ys zs)[i]? = some ⟨y.p, y.cap, z.d⟩ := by
  unfold putD
  rw [List.getElem?_zipWith, hy, hz]
set_option maxRecDepth 100000 in
set_option maxHeartbeats 1000000 in
theorem write_loan (zs : List SlR) (q : Option Addr) (c n : Nat) (w : World) (hn : n = zs.length) (h : Lv w q c zs) (hn4 : n ≤ 1048576) (B m co : Nat) (po : Option Addr) (ys : List SlR) (hL : Loan w B m po co ys) (hd : (ds ys).map List.length = (ds zs).map List.length)
    (hq : Off q (blks ys)) (hz : ∀ z ∈ zs, Off z.p (blks ys)) :
    Calls Tryd.prog 22 #[loanV m po co n, .slice q n c] w fun e w' => e = .returned (.tuple #[]) ∧ Wrote w B m ys zs w' := by
  have HV := Lib.hid h
  have HN := Lib.hid hn
  have HL := Lib.hid hL
  have HD := Lib.hid hd
  have HQ := Lib.hid hq
  have HZ := Lib.hid hz
  have hyl : ys.length = n := by
    have := congrArg List.length hd
    simp [ds] at *; omega
  have HYL := Lib.hid hyl
  have hpl : (putD ys zs).length = n := by unfold putD; simp; omega
  have HPL := Lib.hid hpl
  clear h hn hL hd hq hz hyl hpl
  unfold loanV
  go_enter Tryd.func22, Tryd.ntmps22
  go_wp2_with fail
  have hb0 : (w.alloc (.cells #[.slice (some ⟨m, 0, none⟩) (n + 9) (n + 9), .slice po n co, .int .i64 n] 35)).heap[w.heap.size]? = some (.cells #[.slice (some ⟨m, 0, none⟩) (n + 9) (n + 9), .slice po n co, .int .i64 n] 35) := hp_new w _ _ rfl
  have hm0 := (Mod.refl (blks ys) w).alloc (.cells #[.slice (some ⟨m, 0, none⟩) (n + 9) (n + 9), .slice po n co, .int .i64 n] 35)
  have hh0 := HL.out.held.mod0 ((Mod.refl [] w).alloc (.cells #[.slice (some ⟨m, 0, none⟩) (n + 9) (n + 9), .slice po n co, .int .i64 n] 35))
  have HB0 := Lib.hid hb0
  have HM0 := Lib.hid hm0
  have HH0 := Lib.hid hh0
  clear hb0 hm0 hh0
  go_loopw [4] (fun iv wr => ∃ i : Nat, i ≤ n ∧ iv = .int .i64 i ∧ wr.heap[w.heap.size]? = some (.cells #[.slice (some ⟨m, 0, none⟩) (n + 9) (n + 9), .slice po n co, .int .i64 n] 35) ∧ Held 70 wr B ((putD ys zs).take i ++ ys.drop i) ∧ Mod (blks ys) w wr) (fun iv _ => n - (intOf iv).toNat)
  case atStart => exact ⟨0, by omega, rfl, HB0.out, HH0.out, HM0.out⟩
  case round =>
    obtain ⟨i, hi, rfl, hb, hh, hm⟩ := hrel
    have HB := Lib.hid hb
    have HM := Lib.hid hm
    have HH := Lib.hid hh
    have hx1 : wr.cell? ⟨w.heap.size, 1, none⟩ = some (.slice po n co) := by rw [cell_blk hb]; rfl
    clear hb hm hh HB0 HM0 HH0
    by_cases hlt : i < n
    · obtain ⟨z, hzk⟩ : ∃ z, zs[i]? = some z := ⟨zs[i]'(by have := HN.out; omega), List.getElem?_eq_getElem _⟩
      obtain ⟨y, hyk⟩ : ∃ y, ys[i]? = some y := ⟨ys[i]'(by have := HYL.out; omega), List.getElem?_eq_getElem _⟩
      have hyz : y.d.length = z.d.length := by
        have h1 := congrArg (·[i]?) HD.out
        simpa [ds, hyk, hzk] using h1
      have hzs := HV.out.small z (List.mem_of_getElem? hzk)
      obtain ⟨b, o, rfl, hcr⟩ := (HV.out.rd.mod HM.out (fun _ => HQ.out)).cell i z hzk
      unfold SlR.v at hcr
      have hzr := (HV.out.each z (List.mem_of_getElem? hzk)).mod HM.out (fun _ => HZ.out z (List.mem_of_getElem? hzk))
      have hci : ((putD ys zs).take i ++ ys.drop i)[i]? = some y := by
        rw [List.getElem?_append_right (by simp; omega), List.length_take, HPL.out, Nat.min_eq_left hi, Nat.sub_self, List.getElem?_drop, Nat.add_zero]; exact hyk
      obtain ⟨g, hye, hgB, hgb⟩ := of_held HH.out i y hci
      obtain ⟨bo, oo, rfl, hco⟩ := (HL.out.own.mod HM.out (own_off HL.out)).cell i (wide 70 y) (by rw [List.getElem?_map, hyk]; rfl)
      have hwv : SlR.v (wide 70 y) = .slice (some ⟨g, 0, none⟩) (y.d.length + 70) (y.d.length + 70) := by rw [hye]; simp [SlR.v, wide, marks_length]
      rw [hwv] at hco
      obtain ⟨D', hD'⟩ : ∃ D', D' = z.d ++ marks 70 := ⟨_, rfl⟩
      have e1 : (y.d ++ marks 70).take 0 ++ (z.d.take (y.d.length + 70) ++ (y.d ++ marks 70).drop (0 + min z.d.length (y.d.length + 70))) = D' := by
        rw [hD', List.take_zero, List.nil_append, List.take_of_length_le (by omega), show 0 + min z.d.length (y.d.length + 70) = y.d.length by omega, List.drop_left' rfl]
      have hyg : y.p = some ⟨g, 0, none⟩ := by rw [hye]
      have hgin : g ∈ blks ys := blk_mem (List.mem_of_getElem? hyk) hyg
      have hfit : 0 + (y.d.length + 70) ≤ (y.d ++ marks 70).length := by simp [marks_length]
      have hgd := hp_drew hgb
      have hzd := hzr.mod0 (Mod.refl [] wr).drew
      have HZK := Lib.hid hzk
      have HYK := Lib.hid hyk
      have HYZ := Lib.hid hyz
      have HCI := Lib.hid hci
      have HYG := Lib.hid hyg
      have HDE := Lib.hid hD'
      have HE1 := Lib.hid e1
      have HGI := Lib.hid hgin
      have HGD := Lib.hid hgd
      have HZD := Lib.hid hzd
      have HFIT := Lib.hid hfit
      have q0 : (0 : Int) ≤ (i : Int) := by omega
      have q1 : (i : Int) < (n : Int) := by omega
      clear hzk hyk hyz hzr hci hye hgb hwv hD' e1 hyg hgin hgd hzd hfit
      go_wp2_with fail
      go_region_law (refine step_copy8 rfl (.tmp 15) (.tmp 19) rfl g 0 (y.d.length + 70) (y.d.length + 70) z.p z.d.length z.cap z.d (y.d ++ marks 70) rfl rfl HGD.out HZD.out rfl HFIT.out D' HE1.out ?_)
      all_goals
        have hset : Mod [g] wr.drew (wr.drew.setRow g (D'.map V8).toArray) := (Mod.refl [g] _).setRow (.inl (by simp)) _
        have HSTN : Hid (Held 70 (wr.drew.setRow g (D'.map V8).toArray) B ((putD ys zs).take (i + 1) ++ ys.drop (i + 1))) := by
          have ht := (HH.out.mod0 (Mod.refl [] wr).drew).turn i y HCI.out g HYG.out z.d HYZ.out.symm
          rw [← HDE.out, set_mix (putD ys zs) ys i _ (putD_get i y z HYK.out HZK.out) (by rw [HYL.out, HPL.out])] at ht
          exact Lib.hid ht
        have HMN : Hid (Mod (blks ys) w (wr.drew.setRow g (D'.map V8).toArray)) := Lib.hid ((HM.out.drew).trans hset (fun x hx => .inl (by rw [List.mem_singleton.1 hx]; exact HGI.out)))
        have HBN : Hid ((wr.drew.setRow g (D'.map V8).toArray).heap[w.heap.size]? = some (.cells #[.slice (some ⟨m, 0, none⟩) (n + 9) (n + 9), .slice (some ⟨bo, oo, none⟩) n co, .int .i64 n] 35)) := Lib.hid (hset.get (hp_drew HB.out) (fun hx => by
          have hx := List.mem_singleton.1 hx
          obtain ⟨_, d, hd⟩ := held_blk HL.out.held HGI.out
          have := lt_of_block hd
          omega))
        obtain ⟨W, hW⟩ : ∃ W, W = wr.drew.setRow g (D'.map V8).toArray := ⟨_, rfl⟩
        rw [← hW] at HSTN HMN HBN ⊢
        clear hset hW
        go_wp2_with fail
        go_roundw
        case rel => exact ⟨i + 1, by omega, by go_num, HBN.out, HSTN.out, HMN.out⟩
        case measure => simp [intOf]; omega
    · have hin : i = n := by omega
      have hd : decide ((i : Int) < (n : Int)) = false := by simp; omega
      have HIN := Lib.hid hin
      clear hin
      go_wp2_with fail
      go_end0
      obtain ⟨ms, h1, h2, _⟩ := HL.out.mine
      have hpl := HPL.out
      have hyl := HYL.out
      refine ⟨rfl, ?_, ⟨ms, h1, ?_⟩, HM.out⟩
      · have h := HH.out
        rwa [HIN.out, List.take_of_length_le (by omega), List.drop_of_length_le (by omega), List.append_nil] at h
      · have h := HM.out.get h2 (not_blk HL.out.held h2 (by decide))
        have e : mineOf (putD ys zs) ms 0 = mineOf ys ms 0 := by
          unfold mineOf
          rw [List.map_append, List.map_append, List.map_append, List.map_append, putD_v HD.out]
        rw [e]; exact h
end Go.Proofs.YtbbobpjcbnfpfaaDoor
namespace Go.Proofs.YtbbobpjcbnfpfaaDoor
open Go.RowKit
theorem total_mem (xs : List SlR) (x : SlR) (h : x ∈ xs) : x.d.length ≤ total xs := by
  unfold total
  induction xs with
  | nil => cases h
  | cons y ys ih =>
    rw [List.map_cons, List.sum_cons]
    rcases List.mem_cons.1 h with rfl | h
    · omega
    · have := ih h
      omega
theorem Loan.lv {w : World} {B m co c : Nat} {po : Option Addr} {ys : List SlR} (h : Loan w B m po co ys) (hs : ∀ t ∈ ds ys, t.length ≤ 4398046511104) (hl : ys.length ≤ 4294967296) (hc : ys.length ≤ c) : Lv w (some ⟨m, 0, none⟩) c ys := by
  obtain ⟨ms, _, h2, _⟩ := h.mine
  exact ⟨mine_rd h2 hc, h.held.rd, fun y hy => hs _ (List.mem_map.2 ⟨y, hy, rfl⟩), hl⟩
theorem Wrote.lv {w w' : World} {B m c : Nat} {ys zs : List SlR} (h : Wrote w B m ys zs w') (hs : ∀ t ∈ ds (putD ys zs), t.length ≤ 4398046511104) (hl : (putD ys zs).length ≤ 4294967296) (hc : (putD ys zs).length ≤ c) : Lv w' (some ⟨m, 0, none⟩) c (putD ys zs) := by
  obtain ⟨ms, _, h2⟩ := h.mine
  exact ⟨mine_rd h2 hc, h.held.rd, fun y hy => hs _ (List.mem_map.2 ⟨y, hy, rfl⟩), hl⟩
theorem Lv.ds_small {w : World} {p : Option Addr} {c : Nat} {xs : List SlR} (h : Lv w p c xs) : ∀ t ∈ ds xs, t.length ≤ 4398046511104 := by
  intro t ht
  obtain ⟨x, hx, rfl⟩ := List.mem_map.1 ht
  exact h.small x hx
theorem oth_small {l : List Bs} (h : ∀ t ∈ l, t.length ≤ 4398046511104) : ∀ t ∈ l.map otherOf, t.length ≤ 4398046511104 := by
  intro t ht
  obtain ⟨x, hx, rfl⟩ := List.mem_map.1 ht
  rw [otherOf_length]; exact h x hx
theorem lens_oth (l : List Bs) : l.map List.length = (l.map otherOf).map List.length := by
  rw [List.map_map]
  exact List.map_congr_left fun x _ => (otherOf_length x).symm
/-- Other leaves are written into the lent ones. -/
theorem write_oth {w : World} (l : List Bs) (n : Nat) (hn : n ≤ 1048576) (B m co : Nat) (po : Option Addr) (ys : List SlR) (hy : ds ys = l) (hyl : ys.length = n) (hs : ∀ t ∈ l, t.length ≤ 4398046511104) (hL : Loan w B m po co ys) (g : Nat) (zs : List SlR) (W : World) (k : Mod [] w W)
    (hz : ds zs = l.map otherOf) (ht : Twin W w.heap.size g zs) :
    Calls Tryd.prog 22 #[.agg #[.slice (some ⟨m, 0, none⟩) (n + 9) (n + 9), .slice po n co, .int .i64 n], .slice (some ⟨g, 0, none⟩) n n] W fun e w' => e = .returned (.tuple #[]) ∧ Wrote W B m ys zs w' := by
  have hzl : zs.length = n := by
    have h1 := congrArg List.length hz
    have h2 := congrArg List.length hy
    simp [ds] at *; omega
  have hlt : ∀ b ∈ blks ys, b < w.heap.size := fun b hb => by
    obtain ⟨_, d, hd⟩ := held_blk hL.held hb
    exact lt_of_block hd
  refine write_loan zs (some ⟨g, 0, none⟩) n n W hzl.symm (ht.lv (fun z hz' => ?_) (by omega) (by omega)) hn B m co po ys (hL.mod0 k) (by rw [hy, hz]; exact lens_oth l) (fun p hp hb => ?_) (fun z hz' p hp hb => ?_)
  · exact oth_small hs _ (by rw [← hz]; exact List.mem_map.2 ⟨z, hz', rfl⟩)
  · injection hp with hp
    subst hp
    have h1 : g < w.heap.size := hlt g hb
    have h2 := ht.le
    omega
  · obtain ⟨_, g', h1, h2, _⟩ := ht.held.at_ z hz'
    rw [hp] at h1; injection h1 with h1
    subst h1
    have h1 : g' < w.heap.size := hlt g' hb
    omega
end Go.Proofs.YtbbobpjcbnfpfaaDoor
