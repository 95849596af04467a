/- Post, where it refuses. Condition: the ladder's numbers are in their bounds. -/
import Derived.Test.YtmjdfglidfdkaaaLdNew
namespace Go.Proofs.Ytmjdfglidfdkaaa
open Go.RowKit
attribute [local go_sem high] one8 st8 cm8 b_and8 b_and8r b_and8l b_or8 b_or8r b_or8l b_xor8 b_xor8r b_xor8l b_andNot8 b_andNot8r b_andNot8l b_add8 b_add8r b_add8l b_sub8 b_sub8r b_sub8l b_mul8 b_mul8r b_mul8l b_eql8 b_eql8r b_eql8l b_neq8 b_neq8r b_neq8l b_lss8 b_lss8r b_lss8l b_leq8 b_leq8r b_leq8l b_gtr8 b_gtr8r b_gtr8l b_geq8 b_geq8r b_geq8l b_quo8r b_rem8r b_shl8r b_shr8r b_shl8l b_shr8l u_xor8 g_eql8 g_neq8 g_eql8' g_neq8' one32 st32 cm32 b_and32 b_and32r b_and32l b_or32 b_or32r b_or32l b_xor32 b_xor32r b_xor32l b_andNot32 b_andNot32r b_andNot32l b_add32 b_add32r b_add32l b_sub32 b_sub32r b_sub32l b_mul32 b_mul32r b_mul32l b_eql32 b_eql32r b_eql32l b_neq32 b_neq32r b_neq32l b_lss32 b_lss32r b_lss32l b_leq32 b_leq32r b_leq32l b_gtr32 b_gtr32r b_gtr32l b_geq32 b_geq32r b_geq32l b_quo32r b_rem32r b_shl32r b_shr32r b_shl32l b_shr32l u_xor32 g_eql32 g_neq32 g_eql32' g_neq32' one64 st64 cm64 b_and64 b_and64r b_and64l b_or64 b_or64r b_or64l b_xor64 b_xor64r b_xor64l b_andNot64 b_andNot64r b_andNot64l b_add64 b_add64r b_add64l b_sub64 b_sub64r b_sub64l b_mul64 b_mul64r b_mul64l b_eql64 b_eql64r b_eql64l b_neq64 b_neq64r b_neq64l b_lss64 b_lss64r b_lss64l b_leq64 b_leq64r b_leq64l b_gtr64 b_gtr64r b_gtr64l b_geq64 b_geq64r b_geq64l b_quo64r b_rem64r b_shl64r b_shr64r b_shl64l b_shr64l u_xor64 g_eql64 g_neq64 g_eql64' g_neq64' c_u8_u8 c_u8_u32 c_u8_u64 c_i_u8 c_u32_u8 c_u32_u32 c_u32_u64 c_i_u32 c_u64_u8 c_u64_u32 c_u64_u64 c_i_u64 c_u8_i c_u32_i
attribute [local go_sem ↓] ce8 ce32 ce64
attribute [local go_sem ↓] sliced_slp loadO25 storeO25 loadO44 storeO44 loadO35 loadO84 storeO84
set_option maxRecDepth 100000 in
theorem post_A (B g : Nat) (v : Value) (L : Lad) (w : World) (h : IsL w B g v L) (n : Nat) (hk : L.Ok n) (c : Cm) (by_ : A20) (inbox now : Int)  (h0 : tim now = false) :
    Calls Try.prog 14 #[.pointer (some ⟨g, 0, none⟩), cv c, av by_, .int .i64 inbox, .int .i64 now] w fun e w' => e = .returned (.tuple #[.int .i64 0, .int .i64 168]) ∧ Mod [] w w' := by
  have hw0 := hk.w0
  have hw1 := hk.w1
  have hpl := hk.pl
  obtain ⟨htc, htl⟩ := hk.topOk
  have ht0 := Lad.cnt_bd htc
  have H := Lib.hid h
  have HPL := Lib.hid hpl
  have htop := fun (w1 : World) (h1 : IsL w1 B g v L) => top_any B g v L w1 h1 (by omega)
  obtain ⟨T, hT⟩ : ∃ T, T = L.top := ⟨_, rfl⟩
  rw [← hT] at htop ht0 
  obtain ⟨ht0, ht1⟩ := ht0
  have HTOP := Lib.hid htop
  have htim := fun w1 => time_any now w1
  rw [h0] at htim
  have HTIM := Lib.hid htim
  clear htim h0 htc htl htop hT
  clear h hpl hk
  unfold cv av
  go_enter Try.func14, Try.ntmps14
  go_wp2_with fail
  have MA := ((Mod.refl [] w).alloc (.cells c.cells.toArray 25)).alloc (.cells (by_.1.map V8).toArray 35)
  refine (HTOP.out _ (H.out.mod0 MA)).mono ?_
  rintro e w5 ⟨rfl, m5⟩
  have M5 := (MA.trans0 m5).alloc (.cells T.cells.toArray 25)
  have hS := storeNewCm w5 T
  have H5 := Lib.hid (H.out.mod0 M5)
  have hx0 : (w5.alloc (.cells T.cells.toArray 25)).cell? ⟨w.heap.size, 0, none⟩ = some (.int .i64 c.count) := by
    rw [cell_blk (hp_old (m5.get0 (hp_old (hp_new w (.cells c.cells.toArray 25) _ rfl)))), List.getElem?_toArray]; exact c.c0
  have hx65 : (w5.alloc (.cells T.cells.toArray 25)).cell? ⟨w.heap.size, 65, none⟩ = some (.int .i64 c.leaves) := by
    rw [cell_blk (hp_old (m5.get0 (hp_old (hp_new w (.cells c.cells.toArray 25) _ rfl)))), List.getElem?_toArray]; exact c.c65
  obtain ⟨hy0, hy65⟩ := box_cm w5 T
  have hl69 := H5.out.c69
  have hl67 := H5.out.c67
  have hl66 := H5.out.c66
  obtain ⟨p, cap, hv, _⟩ := H5.out.own.rd
  rw [hv] at hl66
  clear MA m5 hv
  go_wp2_with fail
  clear hS
  refine (HTIM.out _).mono ?_
  rintro e w6 ⟨rfl, rfl⟩
  go_wp2_with fail
  go_ret2
  exact ⟨rfl, M5⟩
set_option maxRecDepth 100000 in
theorem post_B (B g : Nat) (v : Value) (L : Lad) (w : World) (h : IsL w B g v L) (n : Nat) (hk : L.Ok n) (c : Cm) (by_ : A20) (inbox now : Int) (h0 : tim now = true) (h1 : now < L.last) :
    Calls Try.prog 14 #[.pointer (some ⟨g, 0, none⟩), cv c, av by_, .int .i64 inbox, .int .i64 now] w fun e w' => e = .returned (.tuple #[.int .i64 0, .int .i64 168]) ∧ Mod [] w w' := by
  have hw0 := hk.w0
  have hw1 := hk.w1
  have hpl := hk.pl
  obtain ⟨htc, htl⟩ := hk.topOk
  have ht0 := Lad.cnt_bd htc
  have H := Lib.hid h
  have HPL := Lib.hid hpl
  have htop := fun (w1 : World) (h1 : IsL w1 B g v L) => top_any B g v L w1 h1 (by omega)
  obtain ⟨T, hT⟩ : ∃ T, T = L.top := ⟨_, rfl⟩
  rw [← hT] at htop ht0 
  obtain ⟨ht0, ht1⟩ := ht0
  have HTOP := Lib.hid htop
  have htim := fun w1 => time_any now w1
  rw [h0] at htim
  have HTIM := Lib.hid htim
  clear htim h0 htc htl htop hT
  have d1 : decide (now < L.last) = true := by simp; omega
  clear h1
  clear h hpl hk
  unfold cv av
  go_enter Try.func14, Try.ntmps14
  go_wp2_with fail
  have MA := ((Mod.refl [] w).alloc (.cells c.cells.toArray 25)).alloc (.cells (by_.1.map V8).toArray 35)
  refine (HTOP.out _ (H.out.mod0 MA)).mono ?_
  rintro e w5 ⟨rfl, m5⟩
  have M5 := (MA.trans0 m5).alloc (.cells T.cells.toArray 25)
  have hS := storeNewCm w5 T
  have H5 := Lib.hid (H.out.mod0 M5)
  have hx0 : (w5.alloc (.cells T.cells.toArray 25)).cell? ⟨w.heap.size, 0, none⟩ = some (.int .i64 c.count) := by
    rw [cell_blk (hp_old (m5.get0 (hp_old (hp_new w (.cells c.cells.toArray 25) _ rfl)))), List.getElem?_toArray]; exact c.c0
  have hx65 : (w5.alloc (.cells T.cells.toArray 25)).cell? ⟨w.heap.size, 65, none⟩ = some (.int .i64 c.leaves) := by
    rw [cell_blk (hp_old (m5.get0 (hp_old (hp_new w (.cells c.cells.toArray 25) _ rfl)))), List.getElem?_toArray]; exact c.c65
  obtain ⟨hy0, hy65⟩ := box_cm w5 T
  have hl69 := H5.out.c69
  have hl67 := H5.out.c67
  have hl66 := H5.out.c66
  obtain ⟨p, cap, hv, _⟩ := H5.out.own.rd
  rw [hv] at hl66
  clear MA m5 hv
  go_wp2_with fail
  clear hS
  refine (HTIM.out _).mono ?_
  rintro e w6 ⟨rfl, rfl⟩
  go_wp2_with fail
  go_ret2
  exact ⟨rfl, M5⟩
set_option maxRecDepth 100000 in
theorem post_C (B g : Nat) (v : Value) (L : Lad) (w : World) (h : IsL w B g v L) (n : Nat) (hk : L.Ok n) (c : Cm) (by_ : A20) (inbox now : Int) (h0 : tim now = true) (h1 : ¬ (now < L.last)) (h2 : 4611686018427387904 - L.window < now) :
    Calls Try.prog 14 #[.pointer (some ⟨g, 0, none⟩), cv c, av by_, .int .i64 inbox, .int .i64 now] w fun e w' => e = .returned (.tuple #[.int .i64 0, .int .i64 168]) ∧ Mod [] w w' := by
  have hw0 := hk.w0
  have hw1 := hk.w1
  have hpl := hk.pl
  obtain ⟨htc, htl⟩ := hk.topOk
  have ht0 := Lad.cnt_bd htc
  have H := Lib.hid h
  have HPL := Lib.hid hpl
  have htop := fun (w1 : World) (h1 : IsL w1 B g v L) => top_any B g v L w1 h1 (by omega)
  obtain ⟨T, hT⟩ : ∃ T, T = L.top := ⟨_, rfl⟩
  rw [← hT] at htop ht0 
  obtain ⟨ht0, ht1⟩ := ht0
  have HTOP := Lib.hid htop
  have htim := fun w1 => time_any now w1
  rw [h0] at htim
  have HTIM := Lib.hid htim
  clear htim h0 htc htl htop hT
  have d1 : decide (now < L.last) = false := by simp; omega
  clear h1
  have d2 : decide (4611686018427387904 - L.window < now) = true := by simp; omega
  clear h2
  clear h hpl hk
  unfold cv av
  go_enter Try.func14, Try.ntmps14
  go_wp2_with fail
  have MA := ((Mod.refl [] w).alloc (.cells c.cells.toArray 25)).alloc (.cells (by_.1.map V8).toArray 35)
  refine (HTOP.out _ (H.out.mod0 MA)).mono ?_
  rintro e w5 ⟨rfl, m5⟩
  have M5 := (MA.trans0 m5).alloc (.cells T.cells.toArray 25)
  have hS := storeNewCm w5 T
  have H5 := Lib.hid (H.out.mod0 M5)
  have hx0 : (w5.alloc (.cells T.cells.toArray 25)).cell? ⟨w.heap.size, 0, none⟩ = some (.int .i64 c.count) := by
    rw [cell_blk (hp_old (m5.get0 (hp_old (hp_new w (.cells c.cells.toArray 25) _ rfl)))), List.getElem?_toArray]; exact c.c0
  have hx65 : (w5.alloc (.cells T.cells.toArray 25)).cell? ⟨w.heap.size, 65, none⟩ = some (.int .i64 c.leaves) := by
    rw [cell_blk (hp_old (m5.get0 (hp_old (hp_new w (.cells c.cells.toArray 25) _ rfl)))), List.getElem?_toArray]; exact c.c65
  obtain ⟨hy0, hy65⟩ := box_cm w5 T
  have hl69 := H5.out.c69
  have hl67 := H5.out.c67
  have hl66 := H5.out.c66
  obtain ⟨p, cap, hv, _⟩ := H5.out.own.rd
  rw [hv] at hl66
  clear MA m5 hv
  go_wp2_with fail
  clear hS
  refine (HTIM.out _).mono ?_
  rintro e w6 ⟨rfl, rfl⟩
  go_wp2_with fail
  go_ret2
  exact ⟨rfl, M5⟩
set_option maxRecDepth 100000 in
theorem post_D (B g : Nat) (v : Value) (L : Lad) (w : World) (h : IsL w B g v L) (n : Nat) (hk : L.Ok n) (c : Cm) (by_ : A20) (inbox now : Int) (h0 : tim now = true) (h1 : ¬ (now < L.last)) (h2 : ¬ (4611686018427387904 - L.window < now)) (h3 : cnt c.count = false) :
    Calls Try.prog 14 #[.pointer (some ⟨g, 0, none⟩), cv c, av by_, .int .i64 inbox, .int .i64 now] w fun e w' => e = .returned (.tuple #[.int .i64 0, .int .i64 161]) ∧ Mod [] w w' := by
  have hw0 := hk.w0
  have hw1 := hk.w1
  have hpl := hk.pl
  obtain ⟨htc, htl⟩ := hk.topOk
  have ht0 := Lad.cnt_bd htc
  have H := Lib.hid h
  have HPL := Lib.hid hpl
  have htop := fun (w1 : World) (h1 : IsL w1 B g v L) => top_any B g v L w1 h1 (by omega)
  obtain ⟨T, hT⟩ : ∃ T, T = L.top := ⟨_, rfl⟩
  rw [← hT] at htop ht0 
  obtain ⟨ht0, ht1⟩ := ht0
  have HTOP := Lib.hid htop
  have htim := fun w1 => time_any now w1
  rw [h0] at htim
  have HTIM := Lib.hid htim
  clear htim h0 htc htl htop hT
  have hcc := fun w1 => count_any c.count w1
  rw [h3] at hcc
  have HCC := Lib.hid hcc
  clear hcc h3
  have d1 : decide (now < L.last) = false := by simp; omega
  clear h1
  have d2 : decide (4611686018427387904 - L.window < now) = false := by simp; omega
  clear h2
  clear h hpl hk
  unfold cv av
  go_enter Try.func14, Try.ntmps14
  go_wp2_with fail
  have MA := ((Mod.refl [] w).alloc (.cells c.cells.toArray 25)).alloc (.cells (by_.1.map V8).toArray 35)
  refine (HTOP.out _ (H.out.mod0 MA)).mono ?_
  rintro e w5 ⟨rfl, m5⟩
  have M5 := (MA.trans0 m5).alloc (.cells T.cells.toArray 25)
  have hS := storeNewCm w5 T
  have H5 := Lib.hid (H.out.mod0 M5)
  have hx0 : (w5.alloc (.cells T.cells.toArray 25)).cell? ⟨w.heap.size, 0, none⟩ = some (.int .i64 c.count) := by
    rw [cell_blk (hp_old (m5.get0 (hp_old (hp_new w (.cells c.cells.toArray 25) _ rfl)))), List.getElem?_toArray]; exact c.c0
  have hx65 : (w5.alloc (.cells T.cells.toArray 25)).cell? ⟨w.heap.size, 65, none⟩ = some (.int .i64 c.leaves) := by
    rw [cell_blk (hp_old (m5.get0 (hp_old (hp_new w (.cells c.cells.toArray 25) _ rfl)))), List.getElem?_toArray]; exact c.c65
  obtain ⟨hy0, hy65⟩ := box_cm w5 T
  have hl69 := H5.out.c69
  have hl67 := H5.out.c67
  have hl66 := H5.out.c66
  obtain ⟨p, cap, hv, _⟩ := H5.out.own.rd
  rw [hv] at hl66
  clear MA m5 hv
  go_wp2_with fail
  clear hS
  refine (HTIM.out _).mono ?_
  rintro e w6 ⟨rfl, rfl⟩
  go_wp2_with fail
  refine (HCC.out _).mono ?_
  rintro e w6 ⟨rfl, rfl⟩
  go_wp2_with fail
  go_ret2
  exact ⟨rfl, M5⟩
set_option maxRecDepth 100000 in
theorem post_E (B g : Nat) (v : Value) (L : Lad) (w : World) (h : IsL w B g v L) (n : Nat) (hk : L.Ok n) (c : Cm) (by_ : A20) (inbox now : Int) (h0 : tim now = true) (h1 : ¬ (now < L.last)) (h2 : ¬ (4611686018427387904 - L.window < now)) (h3 : cnt c.count = true) (h4 : c.count ≤ L.top.count) :
    Calls Try.prog 14 #[.pointer (some ⟨g, 0, none⟩), cv c, av by_, .int .i64 inbox, .int .i64 now] w fun e w' => e = .returned (.tuple #[.int .i64 0, .int .i64 161]) ∧ Mod [] w w' := by
  have hw0 := hk.w0
  have hw1 := hk.w1
  have hpl := hk.pl
  obtain ⟨htc, htl⟩ := hk.topOk
  have ht0 := Lad.cnt_bd htc
  have H := Lib.hid h
  have HPL := Lib.hid hpl
  have htop := fun (w1 : World) (h1 : IsL w1 B g v L) => top_any B g v L w1 h1 (by omega)
  obtain ⟨T, hT⟩ : ∃ T, T = L.top := ⟨_, rfl⟩
  rw [← hT] at htop ht0 h4
  obtain ⟨ht0, ht1⟩ := ht0
  have HTOP := Lib.hid htop
  have htim := fun w1 => time_any now w1
  rw [h0] at htim
  have HTIM := Lib.hid htim
  clear htim h0 htc htl htop hT
  have hcc := fun w1 => count_any c.count w1
  rw [h3] at hcc
  have HCC := Lib.hid hcc
  obtain ⟨hc0, hc1⟩ := Lad.cnt_bd h3
  clear hcc h3
  have d1 : decide (now < L.last) = false := by simp; omega
  clear h1
  have d2 : decide (4611686018427387904 - L.window < now) = false := by simp; omega
  clear h2
  have d4 : decide (c.count ≤ T.count) = true := by simp; omega
  clear h4
  clear h hpl hk
  unfold cv av
  go_enter Try.func14, Try.ntmps14
  go_wp2_with fail
  have MA := ((Mod.refl [] w).alloc (.cells c.cells.toArray 25)).alloc (.cells (by_.1.map V8).toArray 35)
  refine (HTOP.out _ (H.out.mod0 MA)).mono ?_
  rintro e w5 ⟨rfl, m5⟩
  have M5 := (MA.trans0 m5).alloc (.cells T.cells.toArray 25)
  have hS := storeNewCm w5 T
  have H5 := Lib.hid (H.out.mod0 M5)
  have hx0 : (w5.alloc (.cells T.cells.toArray 25)).cell? ⟨w.heap.size, 0, none⟩ = some (.int .i64 c.count) := by
    rw [cell_blk (hp_old (m5.get0 (hp_old (hp_new w (.cells c.cells.toArray 25) _ rfl)))), List.getElem?_toArray]; exact c.c0
  have hx65 : (w5.alloc (.cells T.cells.toArray 25)).cell? ⟨w.heap.size, 65, none⟩ = some (.int .i64 c.leaves) := by
    rw [cell_blk (hp_old (m5.get0 (hp_old (hp_new w (.cells c.cells.toArray 25) _ rfl)))), List.getElem?_toArray]; exact c.c65
  obtain ⟨hy0, hy65⟩ := box_cm w5 T
  have hl69 := H5.out.c69
  have hl67 := H5.out.c67
  have hl66 := H5.out.c66
  obtain ⟨p, cap, hv, _⟩ := H5.out.own.rd
  rw [hv] at hl66
  clear MA m5 hv
  go_wp2_with fail
  clear hS
  refine (HTIM.out _).mono ?_
  rintro e w6 ⟨rfl, rfl⟩
  go_wp2_with fail
  refine (HCC.out _).mono ?_
  rintro e w6 ⟨rfl, rfl⟩
  go_wp2_with fail
  go_ret2
  exact ⟨rfl, M5⟩
set_option maxRecDepth 100000 in
theorem post_F (B g : Nat) (v : Value) (L : Lad) (w : World) (h : IsL w B g v L) (n : Nat) (hk : L.Ok n) (c : Cm) (by_ : A20) (inbox now : Int) (h0 : tim now = true) (h1 : ¬ (now < L.last)) (h2 : ¬ (4611686018427387904 - L.window < now)) (h3 : cnt c.count = true) (h4 : ¬ (c.count ≤ L.top.count)) (h5 : 1024 < c.count - L.top.count) :
    Calls Try.prog 14 #[.pointer (some ⟨g, 0, none⟩), cv c, av by_, .int .i64 inbox, .int .i64 now] w fun e w' => e = .returned (.tuple #[.int .i64 0, .int .i64 161]) ∧ Mod [] w w' := by
  have hw0 := hk.w0
  have hw1 := hk.w1
  have hpl := hk.pl
  obtain ⟨htc, htl⟩ := hk.topOk
  have ht0 := Lad.cnt_bd htc
  have H := Lib.hid h
  have HPL := Lib.hid hpl
  have htop := fun (w1 : World) (h1 : IsL w1 B g v L) => top_any B g v L w1 h1 (by omega)
  obtain ⟨T, hT⟩ : ∃ T, T = L.top := ⟨_, rfl⟩
  rw [← hT] at htop ht0 h4 h5
  obtain ⟨ht0, ht1⟩ := ht0
  have HTOP := Lib.hid htop
  have htim := fun w1 => time_any now w1
  rw [h0] at htim
  have HTIM := Lib.hid htim
  clear htim h0 htc htl htop hT
  have hcc := fun w1 => count_any c.count w1
  rw [h3] at hcc
  have HCC := Lib.hid hcc
  obtain ⟨hc0, hc1⟩ := Lad.cnt_bd h3
  clear hcc h3
  have d1 : decide (now < L.last) = false := by simp; omega
  clear h1
  have d2 : decide (4611686018427387904 - L.window < now) = false := by simp; omega
  clear h2
  have d4 : decide (c.count ≤ T.count) = false := by simp; omega
  clear h4
  have d5 : decide (1024 < c.count - T.count) = true := by simp; omega
  clear h5
  clear h hpl hk
  unfold cv av
  go_enter Try.func14, Try.ntmps14
  go_wp2_with fail
  have MA := ((Mod.refl [] w).alloc (.cells c.cells.toArray 25)).alloc (.cells (by_.1.map V8).toArray 35)
  refine (HTOP.out _ (H.out.mod0 MA)).mono ?_
  rintro e w5 ⟨rfl, m5⟩
  have M5 := (MA.trans0 m5).alloc (.cells T.cells.toArray 25)
  have hS := storeNewCm w5 T
  have H5 := Lib.hid (H.out.mod0 M5)
  have hx0 : (w5.alloc (.cells T.cells.toArray 25)).cell? ⟨w.heap.size, 0, none⟩ = some (.int .i64 c.count) := by
    rw [cell_blk (hp_old (m5.get0 (hp_old (hp_new w (.cells c.cells.toArray 25) _ rfl)))), List.getElem?_toArray]; exact c.c0
  have hx65 : (w5.alloc (.cells T.cells.toArray 25)).cell? ⟨w.heap.size, 65, none⟩ = some (.int .i64 c.leaves) := by
    rw [cell_blk (hp_old (m5.get0 (hp_old (hp_new w (.cells c.cells.toArray 25) _ rfl)))), List.getElem?_toArray]; exact c.c65
  obtain ⟨hy0, hy65⟩ := box_cm w5 T
  have hl69 := H5.out.c69
  have hl67 := H5.out.c67
  have hl66 := H5.out.c66
  obtain ⟨p, cap, hv, _⟩ := H5.out.own.rd
  rw [hv] at hl66
  clear MA m5 hv
  go_wp2_with fail
  clear hS
  refine (HTIM.out _).mono ?_
  rintro e w6 ⟨rfl, rfl⟩
  go_wp2_with fail
  refine (HCC.out _).mono ?_
  rintro e w6 ⟨rfl, rfl⟩
  go_wp2_with fail
  go_ret2
  exact ⟨rfl, M5⟩
set_option maxRecDepth 100000 in
theorem post_G (B g : Nat) (v : Value) (L : Lad) (w : World) (h : IsL w B g v L) (n : Nat) (hk : L.Ok n) (c : Cm) (by_ : A20) (inbox now : Int) (h0 : tim now = true) (h1 : ¬ (now < L.last)) (h2 : ¬ (4611686018427387904 - L.window < now)) (h3 : cnt c.count = true) (h4 : ¬ (c.count ≤ L.top.count)) (h5 : ¬ (1024 < c.count - L.top.count)) (h6 : cnt c.leaves = false) :
    Calls Try.prog 14 #[.pointer (some ⟨g, 0, none⟩), cv c, av by_, .int .i64 inbox, .int .i64 now] w fun e w' => e = .returned (.tuple #[.int .i64 0, .int .i64 161]) ∧ Mod [] w w' := by
  have hw0 := hk.w0
  have hw1 := hk.w1
  have hpl := hk.pl
  obtain ⟨htc, htl⟩ := hk.topOk
  have ht0 := Lad.cnt_bd htc
  have H := Lib.hid h
  have HPL := Lib.hid hpl
  have htop := fun (w1 : World) (h1 : IsL w1 B g v L) => top_any B g v L w1 h1 (by omega)
  obtain ⟨T, hT⟩ : ∃ T, T = L.top := ⟨_, rfl⟩
  rw [← hT] at htop ht0 h4 h5
  obtain ⟨ht0, ht1⟩ := ht0
  have HTOP := Lib.hid htop
  have htim := fun w1 => time_any now w1
  rw [h0] at htim
  have HTIM := Lib.hid htim
  clear htim h0 htc htl htop hT
  have hcc := fun w1 => count_any c.count w1
  rw [h3] at hcc
  have HCC := Lib.hid hcc
  obtain ⟨hc0, hc1⟩ := Lad.cnt_bd h3
  clear hcc h3
  have hcl := fun w1 => count_any c.leaves w1
  rw [h6] at hcl
  have HCL := Lib.hid hcl
  clear hcl h6
  have d1 : decide (now < L.last) = false := by simp; omega
  clear h1
  have d2 : decide (4611686018427387904 - L.window < now) = false := by simp; omega
  clear h2
  have d4 : decide (c.count ≤ T.count) = false := by simp; omega
  clear h4
  have d5 : decide (1024 < c.count - T.count) = false := by simp; omega
  clear h5
  clear h hpl hk
  unfold cv av
  go_enter Try.func14, Try.ntmps14
  go_wp2_with fail
  have MA := ((Mod.refl [] w).alloc (.cells c.cells.toArray 25)).alloc (.cells (by_.1.map V8).toArray 35)
  refine (HTOP.out _ (H.out.mod0 MA)).mono ?_
  rintro e w5 ⟨rfl, m5⟩
  have M5 := (MA.trans0 m5).alloc (.cells T.cells.toArray 25)
  have hS := storeNewCm w5 T
  have H5 := Lib.hid (H.out.mod0 M5)
  have hx0 : (w5.alloc (.cells T.cells.toArray 25)).cell? ⟨w.heap.size, 0, none⟩ = some (.int .i64 c.count) := by
    rw [cell_blk (hp_old (m5.get0 (hp_old (hp_new w (.cells c.cells.toArray 25) _ rfl)))), List.getElem?_toArray]; exact c.c0
  have hx65 : (w5.alloc (.cells T.cells.toArray 25)).cell? ⟨w.heap.size, 65, none⟩ = some (.int .i64 c.leaves) := by
    rw [cell_blk (hp_old (m5.get0 (hp_old (hp_new w (.cells c.cells.toArray 25) _ rfl)))), List.getElem?_toArray]; exact c.c65
  obtain ⟨hy0, hy65⟩ := box_cm w5 T
  have hl69 := H5.out.c69
  have hl67 := H5.out.c67
  have hl66 := H5.out.c66
  obtain ⟨p, cap, hv, _⟩ := H5.out.own.rd
  rw [hv] at hl66
  clear MA m5 hv
  go_wp2_with fail
  clear hS
  refine (HTIM.out _).mono ?_
  rintro e w6 ⟨rfl, rfl⟩
  go_wp2_with fail
  refine (HCC.out _).mono ?_
  rintro e w6 ⟨rfl, rfl⟩
  go_wp2_with fail
  refine (HCL.out _).mono ?_
  rintro e w6 ⟨rfl, rfl⟩
  go_wp2_with fail
  go_ret2
  exact ⟨rfl, M5⟩
set_option maxRecDepth 100000 in
theorem post_H (B g : Nat) (v : Value) (L : Lad) (w : World) (h : IsL w B g v L) (n : Nat) (hk : L.Ok n) (c : Cm) (by_ : A20) (inbox now : Int) (h0 : tim now = true) (h1 : ¬ (now < L.last)) (h2 : ¬ (4611686018427387904 - L.window < now)) (h3 : cnt c.count = true) (h4 : ¬ (c.count ≤ L.top.count)) (h5 : ¬ (1024 < c.count - L.top.count)) (h6 : cnt c.leaves = true) (h7 : c.leaves < L.top.leaves) :
    Calls Try.prog 14 #[.pointer (some ⟨g, 0, none⟩), cv c, av by_, .int .i64 inbox, .int .i64 now] w fun e w' => e = .returned (.tuple #[.int .i64 0, .int .i64 161]) ∧ Mod [] w w' := by
  have hw0 := hk.w0
  have hw1 := hk.w1
  have hpl := hk.pl
  obtain ⟨htc, htl⟩ := hk.topOk
  have ht0 := Lad.cnt_bd htc
  have H := Lib.hid h
  have HPL := Lib.hid hpl
  have htop := fun (w1 : World) (h1 : IsL w1 B g v L) => top_any B g v L w1 h1 (by omega)
  obtain ⟨T, hT⟩ : ∃ T, T = L.top := ⟨_, rfl⟩
  rw [← hT] at htop ht0 h4 h5 h7
  obtain ⟨ht0, ht1⟩ := ht0
  have HTOP := Lib.hid htop
  have htim := fun w1 => time_any now w1
  rw [h0] at htim
  have HTIM := Lib.hid htim
  clear htim h0 htc htl htop hT
  have hcc := fun w1 => count_any c.count w1
  rw [h3] at hcc
  have HCC := Lib.hid hcc
  obtain ⟨hc0, hc1⟩ := Lad.cnt_bd h3
  clear hcc h3
  have hcl := fun w1 => count_any c.leaves w1
  rw [h6] at hcl
  have HCL := Lib.hid hcl
  clear hcl h6
  have d1 : decide (now < L.last) = false := by simp; omega
  clear h1
  have d2 : decide (4611686018427387904 - L.window < now) = false := by simp; omega
  clear h2
  have d4 : decide (c.count ≤ T.count) = false := by simp; omega
  clear h4
  have d5 : decide (1024 < c.count - T.count) = false := by simp; omega
  clear h5
  have d7 : decide (c.leaves < T.leaves) = true := by simp; omega
  clear h7
  clear h hpl hk
  unfold cv av
  go_enter Try.func14, Try.ntmps14
  go_wp2_with fail
  have MA := ((Mod.refl [] w).alloc (.cells c.cells.toArray 25)).alloc (.cells (by_.1.map V8).toArray 35)
  refine (HTOP.out _ (H.out.mod0 MA)).mono ?_
  rintro e w5 ⟨rfl, m5⟩
  have M5 := (MA.trans0 m5).alloc (.cells T.cells.toArray 25)
  have hS := storeNewCm w5 T
  have H5 := Lib.hid (H.out.mod0 M5)
  have hx0 : (w5.alloc (.cells T.cells.toArray 25)).cell? ⟨w.heap.size, 0, none⟩ = some (.int .i64 c.count) := by
    rw [cell_blk (hp_old (m5.get0 (hp_old (hp_new w (.cells c.cells.toArray 25) _ rfl)))), List.getElem?_toArray]; exact c.c0
  have hx65 : (w5.alloc (.cells T.cells.toArray 25)).cell? ⟨w.heap.size, 65, none⟩ = some (.int .i64 c.leaves) := by
    rw [cell_blk (hp_old (m5.get0 (hp_old (hp_new w (.cells c.cells.toArray 25) _ rfl)))), List.getElem?_toArray]; exact c.c65
  obtain ⟨hy0, hy65⟩ := box_cm w5 T
  have hl69 := H5.out.c69
  have hl67 := H5.out.c67
  have hl66 := H5.out.c66
  obtain ⟨p, cap, hv, _⟩ := H5.out.own.rd
  rw [hv] at hl66
  clear MA m5 hv
  go_wp2_with fail
  clear hS
  refine (HTIM.out _).mono ?_
  rintro e w6 ⟨rfl, rfl⟩
  go_wp2_with fail
  refine (HCC.out _).mono ?_
  rintro e w6 ⟨rfl, rfl⟩
  go_wp2_with fail
  refine (HCL.out _).mono ?_
  rintro e w6 ⟨rfl, rfl⟩
  go_wp2_with fail
  go_ret2
  exact ⟨rfl, M5⟩
set_option maxRecDepth 100000 in
theorem post_I (B g : Nat) (v : Value) (L : Lad) (w : World) (h : IsL w B g v L) (n : Nat) (hk : L.Ok n) (c : Cm) (by_ : A20) (inbox now : Int) (h0 : tim now = true) (h1 : ¬ (now < L.last)) (h2 : ¬ (4611686018427387904 - L.window < now)) (h3 : cnt c.count = true) (h4 : ¬ (c.count ≤ L.top.count)) (h5 : ¬ (1024 < c.count - L.top.count)) (h6 : cnt c.leaves = true) (h7 : ¬ (c.leaves < L.top.leaves)) (h8 : inbox < c.count) :
    Calls Try.prog 14 #[.pointer (some ⟨g, 0, none⟩), cv c, av by_, .int .i64 inbox, .int .i64 now] w fun e w' => e = .returned (.tuple #[.int .i64 0, .int .i64 162]) ∧ Mod [] w w' := by
  have hw0 := hk.w0
  have hw1 := hk.w1
  have hpl := hk.pl
  obtain ⟨htc, htl⟩ := hk.topOk
  have ht0 := Lad.cnt_bd htc
  have H := Lib.hid h
  have HPL := Lib.hid hpl
  have htop := fun (w1 : World) (h1 : IsL w1 B g v L) => top_any B g v L w1 h1 (by omega)
  obtain ⟨T, hT⟩ : ∃ T, T = L.top := ⟨_, rfl⟩
  rw [← hT] at htop ht0 h4 h5 h7
  obtain ⟨ht0, ht1⟩ := ht0
  have HTOP := Lib.hid htop
  have htim := fun w1 => time_any now w1
  rw [h0] at htim
  have HTIM := Lib.hid htim
  clear htim h0 htc htl htop hT
  have hcc := fun w1 => count_any c.count w1
  rw [h3] at hcc
  have HCC := Lib.hid hcc
  obtain ⟨hc0, hc1⟩ := Lad.cnt_bd h3
  clear hcc h3
  have hcl := fun w1 => count_any c.leaves w1
  rw [h6] at hcl
  have HCL := Lib.hid hcl
  clear hcl h6
  have d1 : decide (now < L.last) = false := by simp; omega
  clear h1
  have d2 : decide (4611686018427387904 - L.window < now) = false := by simp; omega
  clear h2
  have d4 : decide (c.count ≤ T.count) = false := by simp; omega
  clear h4
  have d5 : decide (1024 < c.count - T.count) = false := by simp; omega
  clear h5
  have d7 : decide (c.leaves < T.leaves) = false := by simp; omega
  clear h7
  have d8 : decide (inbox < c.count) = true := by simp; omega
  clear h8
  clear h hpl hk
  unfold cv av
  go_enter Try.func14, Try.ntmps14
  go_wp2_with fail
  have MA := ((Mod.refl [] w).alloc (.cells c.cells.toArray 25)).alloc (.cells (by_.1.map V8).toArray 35)
  refine (HTOP.out _ (H.out.mod0 MA)).mono ?_
  rintro e w5 ⟨rfl, m5⟩
  have M5 := (MA.trans0 m5).alloc (.cells T.cells.toArray 25)
  have hS := storeNewCm w5 T
  have H5 := Lib.hid (H.out.mod0 M5)
  have hx0 : (w5.alloc (.cells T.cells.toArray 25)).cell? ⟨w.heap.size, 0, none⟩ = some (.int .i64 c.count) := by
    rw [cell_blk (hp_old (m5.get0 (hp_old (hp_new w (.cells c.cells.toArray 25) _ rfl)))), List.getElem?_toArray]; exact c.c0
  have hx65 : (w5.alloc (.cells T.cells.toArray 25)).cell? ⟨w.heap.size, 65, none⟩ = some (.int .i64 c.leaves) := by
    rw [cell_blk (hp_old (m5.get0 (hp_old (hp_new w (.cells c.cells.toArray 25) _ rfl)))), List.getElem?_toArray]; exact c.c65
  obtain ⟨hy0, hy65⟩ := box_cm w5 T
  have hl69 := H5.out.c69
  have hl67 := H5.out.c67
  have hl66 := H5.out.c66
  obtain ⟨p, cap, hv, _⟩ := H5.out.own.rd
  rw [hv] at hl66
  clear MA m5 hv
  go_wp2_with fail
  clear hS
  refine (HTIM.out _).mono ?_
  rintro e w6 ⟨rfl, rfl⟩
  go_wp2_with fail
  refine (HCC.out _).mono ?_
  rintro e w6 ⟨rfl, rfl⟩
  go_wp2_with fail
  refine (HCL.out _).mono ?_
  rintro e w6 ⟨rfl, rfl⟩
  go_wp2_with fail
  go_ret2
  exact ⟨rfl, M5⟩
set_option maxRecDepth 100000 in
theorem post_J (B g : Nat) (v : Value) (L : Lad) (w : World) (h : IsL w B g v L) (n : Nat) (hk : L.Ok n) (c : Cm) (by_ : A20) (inbox now : Int) (h0 : tim now = true) (h1 : ¬ (now < L.last)) (h2 : ¬ (4611686018427387904 - L.window < now)) (h3 : cnt c.count = true) (h4 : ¬ (c.count ≤ L.top.count)) (h5 : ¬ (1024 < c.count - L.top.count)) (h6 : cnt c.leaves = true) (h7 : ¬ (c.leaves < L.top.leaves)) (h8 : ¬ (inbox < c.count)) (h9 : 32 ≤ L.pending.length) :
    Calls Try.prog 14 #[.pointer (some ⟨g, 0, none⟩), cv c, av by_, .int .i64 inbox, .int .i64 now] w fun e w' => e = .returned (.tuple #[.int .i64 0, .int .i64 163]) ∧ Mod [] w w' := by
  have hw0 := hk.w0
  have hw1 := hk.w1
  have hpl := hk.pl
  obtain ⟨htc, htl⟩ := hk.topOk
  have ht0 := Lad.cnt_bd htc
  have H := Lib.hid h
  have HPL := Lib.hid hpl
  have htop := fun (w1 : World) (h1 : IsL w1 B g v L) => top_any B g v L w1 h1 (by omega)
  obtain ⟨T, hT⟩ : ∃ T, T = L.top := ⟨_, rfl⟩
  rw [← hT] at htop ht0 h4 h5 h7
  obtain ⟨ht0, ht1⟩ := ht0
  have HTOP := Lib.hid htop
  have htim := fun w1 => time_any now w1
  rw [h0] at htim
  have HTIM := Lib.hid htim
  clear htim h0 htc htl htop hT
  have hcc := fun w1 => count_any c.count w1
  rw [h3] at hcc
  have HCC := Lib.hid hcc
  obtain ⟨hc0, hc1⟩ := Lad.cnt_bd h3
  clear hcc h3
  have hcl := fun w1 => count_any c.leaves w1
  rw [h6] at hcl
  have HCL := Lib.hid hcl
  clear hcl h6
  have d1 : decide (now < L.last) = false := by simp; omega
  clear h1
  have d2 : decide (4611686018427387904 - L.window < now) = false := by simp; omega
  clear h2
  have d4 : decide (c.count ≤ T.count) = false := by simp; omega
  clear h4
  have d5 : decide (1024 < c.count - T.count) = false := by simp; omega
  clear h5
  have d7 : decide (c.leaves < T.leaves) = false := by simp; omega
  clear h7
  have d8 : decide (inbox < c.count) = false := by simp; omega
  clear h8
  have d9 : decide ((32 : Int) ≤ (L.pending.length : Int)) = true := by simp; omega
  clear h9
  clear h hpl hk
  unfold cv av
  go_enter Try.func14, Try.ntmps14
  go_wp2_with fail
  have MA := ((Mod.refl [] w).alloc (.cells c.cells.toArray 25)).alloc (.cells (by_.1.map V8).toArray 35)
  refine (HTOP.out _ (H.out.mod0 MA)).mono ?_
  rintro e w5 ⟨rfl, m5⟩
  have M5 := (MA.trans0 m5).alloc (.cells T.cells.toArray 25)
  have hS := storeNewCm w5 T
  have H5 := Lib.hid (H.out.mod0 M5)
  have hx0 : (w5.alloc (.cells T.cells.toArray 25)).cell? ⟨w.heap.size, 0, none⟩ = some (.int .i64 c.count) := by
    rw [cell_blk (hp_old (m5.get0 (hp_old (hp_new w (.cells c.cells.toArray 25) _ rfl)))), List.getElem?_toArray]; exact c.c0
  have hx65 : (w5.alloc (.cells T.cells.toArray 25)).cell? ⟨w.heap.size, 65, none⟩ = some (.int .i64 c.leaves) := by
    rw [cell_blk (hp_old (m5.get0 (hp_old (hp_new w (.cells c.cells.toArray 25) _ rfl)))), List.getElem?_toArray]; exact c.c65
  obtain ⟨hy0, hy65⟩ := box_cm w5 T
  have hl69 := H5.out.c69
  have hl67 := H5.out.c67
  have hl66 := H5.out.c66
  obtain ⟨p, cap, hv, _⟩ := H5.out.own.rd
  rw [hv] at hl66
  clear MA m5 hv
  go_wp2_with fail
  clear hS
  refine (HTIM.out _).mono ?_
  rintro e w6 ⟨rfl, rfl⟩
  go_wp2_with fail
  refine (HCC.out _).mono ?_
  rintro e w6 ⟨rfl, rfl⟩
  go_wp2_with fail
  refine (HCL.out _).mono ?_
  rintro e w6 ⟨rfl, rfl⟩
  go_wp2_with fail
  go_ret2
  exact ⟨rfl, M5⟩
theorem post_no (B g : Nat) (v : Value) (L : Lad) (w : World) (h : IsL w B g v L) (n : Nat) (hk : L.Ok n) (c : Cm) (by_ : A20) (inbox now : Int) (hne : L.postErr c inbox now ≠ 0) :
    Calls Try.prog 14 #[.pointer (some ⟨g, 0, none⟩), cv c, av by_, .int .i64 inbox, .int .i64 now] w fun e w' => e = .returned (.tuple #[.int .i64 0, .int .i64 (L.postErr c inbox now)]) ∧ Mod [] w w' := by
  have e1 : ∀ b : Bool, b ≠ false → b = true := fun b hb => by cases b <;> simp_all
  by_cases h0 : tim now = false
  · have he : L.postErr c inbox now = 168 := by unfold Lad.postErr; simp [h0]
    rw [he]
    exact post_A B g v L w h n hk c by_ inbox now  h0
  by_cases h1 : now < L.last
  · have he : L.postErr c inbox now = 168 := by unfold Lad.postErr; simp [h0, h1]
    rw [he]
    exact post_B B g v L w h n hk c by_ inbox now (e1 _ h0) h1
  by_cases h2 : 4611686018427387904 - L.window < now
  · have he : L.postErr c inbox now = 168 := by unfold Lad.postErr; simp [h0, h1, h2]
    rw [he]
    exact post_C B g v L w h n hk c by_ inbox now (e1 _ h0) h1 h2
  by_cases h3 : cnt c.count = false
  · have he : L.postErr c inbox now = 161 := by unfold Lad.postErr; simp [h0, h1, h2, h3]
    rw [he]
    exact post_D B g v L w h n hk c by_ inbox now (e1 _ h0) h1 h2 h3
  by_cases h4 : c.count ≤ L.top.count
  · have he : L.postErr c inbox now = 161 := by unfold Lad.postErr; simp [h0, h1, h2, h3, h4]
    rw [he]
    exact post_E B g v L w h n hk c by_ inbox now (e1 _ h0) h1 h2 (e1 _ h3) h4
  by_cases h5 : 1024 < c.count - L.top.count
  · have he : L.postErr c inbox now = 161 := by unfold Lad.postErr; simp [h0, h1, h2, h3, h4, h5]
    rw [he]
    exact post_F B g v L w h n hk c by_ inbox now (e1 _ h0) h1 h2 (e1 _ h3) h4 h5
  by_cases h6 : cnt c.leaves = false
  · have he : L.postErr c inbox now = 161 := by unfold Lad.postErr; simp [h0, h1, h2, h3, h4, h5, h6]
    rw [he]
    exact post_G B g v L w h n hk c by_ inbox now (e1 _ h0) h1 h2 (e1 _ h3) h4 h5 h6
  by_cases h7 : c.leaves < L.top.leaves
  · have he : L.postErr c inbox now = 161 := by unfold Lad.postErr; simp [h0, h1, h2, h3, h4, h5, h6, h7]
    rw [he]
    exact post_H B g v L w h n hk c by_ inbox now (e1 _ h0) h1 h2 (e1 _ h3) h4 h5 (e1 _ h6) h7
  by_cases h8 : inbox < c.count
  · have he : L.postErr c inbox now = 162 := by unfold Lad.postErr; simp [h0, h1, h2, h3, h4, h5, h6, h7, h8]
    rw [he]
    exact post_I B g v L w h n hk c by_ inbox now (e1 _ h0) h1 h2 (e1 _ h3) h4 h5 (e1 _ h6) h7 h8
  by_cases h9 : 32 ≤ L.pending.length
  · have he : L.postErr c inbox now = 163 := by unfold Lad.postErr; simp [h0, h1, h2, h3, h4, h5, h6, h7, h8, h9]
    rw [he]
    exact post_J B g v L w h n hk c by_ inbox now (e1 _ h0) h1 h2 (e1 _ h3) h4 h5 (e1 _ h6) h7 h8 h9
  exact absurd (by unfold Lad.postErr; simp [h0, h1, h2, h3, h4, h5, h6, h7, h8, h9]) hne
end Go.Proofs.Ytmjdfglidfdkaaa
