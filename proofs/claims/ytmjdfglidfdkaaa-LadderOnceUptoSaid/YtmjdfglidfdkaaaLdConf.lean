/- Confirm of a ladder. Condition: at most 2^20 pending ones. -/
import Derived.Test.YtmjdfglidfdkaaaLdMove2
namespace Go.Proofs.Ytmjdfglidfdkaaa
open Go.RowKit
attribute [local go_sem high] one8 st8 cm8 b_and8 b_and8r b_and8l b_or8 b_or8r b_or8l b_xor8 b_xor8r b_xor8l b_andNot8 b_andNot8r b_andNot8l b_add8 b_add8r b_add8l b_sub8 b_sub8r b_sub8l b_mul8 b_mul8r b_mul8l b_eql8 b_eql8r b_eql8l b_neq8 b_neq8r b_neq8l b_lss8 b_lss8r b_lss8l b_leq8 b_leq8r b_leq8l b_gtr8 b_gtr8r b_gtr8l b_geq8 b_geq8r b_geq8l b_quo8r b_rem8r b_shl8r b_shr8r b_shl8l b_shr8l u_xor8 g_eql8 g_neq8 g_eql8' g_neq8' one32 st32 cm32 b_and32 b_and32r b_and32l b_or32 b_or32r b_or32l b_xor32 b_xor32r b_xor32l b_andNot32 b_andNot32r b_andNot32l b_add32 b_add32r b_add32l b_sub32 b_sub32r b_sub32l b_mul32 b_mul32r b_mul32l b_eql32 b_eql32r b_eql32l b_neq32 b_neq32r b_neq32l b_lss32 b_lss32r b_lss32l b_leq32 b_leq32r b_leq32l b_gtr32 b_gtr32r b_gtr32l b_geq32 b_geq32r b_geq32l b_quo32r b_rem32r b_shl32r b_shr32r b_shl32l b_shr32l u_xor32 g_eql32 g_neq32 g_eql32' g_neq32' one64 st64 cm64 b_and64 b_and64r b_and64l b_or64 b_or64r b_or64l b_xor64 b_xor64r b_xor64l b_andNot64 b_andNot64r b_andNot64l b_add64 b_add64r b_add64l b_sub64 b_sub64r b_sub64l b_mul64 b_mul64r b_mul64l b_eql64 b_eql64r b_eql64l b_neq64 b_neq64r b_neq64l b_lss64 b_lss64r b_lss64l b_leq64 b_leq64r b_leq64l b_gtr64 b_gtr64r b_gtr64l b_geq64 b_geq64r b_geq64l b_quo64r b_rem64r b_shl64r b_shr64r b_shl64l b_shr64l u_xor64 g_eql64 g_neq64 g_eql64' g_neq64' c_u8_u8 c_u8_u32 c_u8_u64 c_i_u8 c_u32_u8 c_u32_u32 c_u32_u64 c_i_u32 c_u64_u8 c_u64_u32 c_u64_u64 c_i_u64 c_u8_i c_u32_i
attribute [local go_sem ↓] ce8 ce32 ce64
attribute [local go_sem ↓] sliced_slp loadO25 storeO25 loadO44 storeO44 loadO35 loadO84 storeO84 buildO44 buildO25
set_option maxRecDepth 100000 in
theorem conf_A (B g : Nat) (v : Value) (L : Lad) (now : Int) (w : World) (h : IsL w B g v L) (hl : L.pending.length ≤ 1048576) (h0 : tim now = false) :
    Calls Try.prog 15 #[.pointer (some ⟨g, 0, none⟩), .int .i64 now] w fun e w' => e = .returned (.tuple #[pv Pd.zero, .int .i64 168]) ∧ Mod [] w w' := by
  have htim := fun w1 => time_any now w1
  rw [h0] at htim
  have HTIM := Lib.hid htim
  have hB := fun w1 => run_pd0 w1
  have hz : Try.zeroCells44.size = 90 := by kernel_rfl
  have hS := storeNewPd w Pd.zero _ hz
  have h5 := h.mod0 ((Mod.refl [] w).alloc (.cells Try.zeroCells44 44))
  have hl69 := h5.c69
  have hl66 := h5.c66
  clear h0 htim h h5 hz
  go_enter Try.func15, Try.ntmps15
  go_wp2_with fail
  refine (HTIM.out _).mono ?_
  rintro e w5 ⟨rfl, rfl⟩
  go_wp2_with fail
  exact bodyPost_ret (results_pd2 rfl _ _ _ _ _ rfl (hp_new _ _ _ rfl)) rfl ⟨rfl, (Mod.refl _ _).alloc _⟩
set_option maxRecDepth 100000 in
theorem conf_B (B g : Nat) (v : Value) (L : Lad) (now : Int) (w : World) (h : IsL w B g v L) (hl : L.pending.length ≤ 1048576) (h0 : tim now = true) (h1 : now < L.last) :
    Calls Try.prog 15 #[.pointer (some ⟨g, 0, none⟩), .int .i64 now] w fun e w' => e = .returned (.tuple #[pv Pd.zero, .int .i64 168]) ∧ Mod [] w w' := by
  have htim := fun w1 => time_any now w1
  rw [h0] at htim
  have HTIM := Lib.hid htim
  have hB := fun w1 => run_pd0 w1
  have hz : Try.zeroCells44.size = 90 := by kernel_rfl
  have hS := storeNewPd w Pd.zero _ hz
  have h5 := h.mod0 ((Mod.refl [] w).alloc (.cells Try.zeroCells44 44))
  have hl69 := h5.c69
  have hl66 := h5.c66
  have d1 : decide (now < L.last) = true := by simpa using h1
  clear h0 htim h h5 hz h1
  go_enter Try.func15, Try.ntmps15
  go_wp2_with fail
  refine (HTIM.out _).mono ?_
  rintro e w5 ⟨rfl, rfl⟩
  go_wp2_with fail
  exact bodyPost_ret (results_pd2 rfl _ _ _ _ _ rfl (hp_new _ _ _ rfl)) rfl ⟨rfl, (Mod.refl _ _).alloc _⟩
set_option maxRecDepth 100000 in
theorem conf_C (B g : Nat) (v : Value) (L : Lad) (now : Int) (w : World) (h : IsL w B g v L) (hl : L.pending.length ≤ 1048576) (h0 : tim now = true) (h1 : ¬ now < L.last) (h2 : L.pending = []) :
    Calls Try.prog 15 #[.pointer (some ⟨g, 0, none⟩), .int .i64 now] w fun e w' => e = .returned (.tuple #[pv Pd.zero, .int .i64 164]) ∧ Mod [] w w' := by
  have htim := fun w1 => time_any now w1
  rw [h0] at htim
  have HTIM := Lib.hid htim
  have hB := fun w1 => run_pd0 w1
  have hz : Try.zeroCells44.size = 90 := by kernel_rfl
  have hS := storeNewPd w Pd.zero _ hz
  have h5 := h.mod0 ((Mod.refl [] w).alloc (.cells Try.zeroCells44 44))
  have hl69 := h5.c69
  have hl66 := h5.c66
  have d1 : decide (now < L.last) = false := by simpa using h1
  obtain ⟨p, cap, hv, _⟩ := h5.own.rd
  have hn0 : L.pending.length = 0 := by rw [h2]; rfl
  rw [hv] at hl66
  rw [hn0] at hl66
  clear h2 hn0 hl hv
  clear h0 htim h h5 hz h1
  go_enter Try.func15, Try.ntmps15
  go_wp2_with fail
  refine (HTIM.out _).mono ?_
  rintro e w5 ⟨rfl, rfl⟩
  go_wp2_with fail
  exact bodyPost_ret (results_pd2 rfl _ _ _ _ _ rfl (hp_new _ _ _ rfl)) rfl ⟨rfl, (Mod.refl _ _).alloc _⟩
set_option maxRecDepth 100000 in
theorem conf_D (B g : Nat) (v : Value) (L : Lad) (now : Int) (w : World) (h : IsL w B g v L) (hl : L.pending.length ≤ 1048576) (h0 : tim now = true) (h1 : ¬ now < L.last) (x : Pd) (hx : L.pending[0]? = some x) (h3 : 0 < x.duels) :
    Calls Try.prog 15 #[.pointer (some ⟨g, 0, none⟩), .int .i64 now] w fun e w' => e = .returned (.tuple #[pv Pd.zero, .int .i64 166]) ∧ Mod [] w w' := by
  have htim := fun w1 => time_any now w1
  rw [h0] at htim
  have HTIM := Lib.hid htim
  have hB := fun w1 => run_pd0 w1
  have hz : Try.zeroCells44.size = 90 := by kernel_rfl
  have hS := storeNewPd w Pd.zero _ hz
  have h5 := h.mod0 ((Mod.refl [] w).alloc (.cells Try.zeroCells44 44))
  have hl69 := h5.c69
  have hl66 := h5.c66
  have d1 : decide (now < L.last) = false := by simpa using h1
  obtain ⟨b, cap, hv, hrg, hcap, _⟩ := own_at h5 0 x hx
  have hpos : 0 < L.pending.length := (List.getElem?_eq_some_iff.1 hx).1
  have hne : ((L.pending.length : Int) == 0) = false := by rw [beq_eq_false_iff_ne]; omega
  rw [hv] at hl66
  have hc89 := range_cell hrg 89 _ x.c89
  have hc88 := range_cell hrg 88 _ x.c88
  simp only [Nat.zero_mul, Nat.zero_add] at hc89 hc88
  clear hv hrg hx
  have d3 : decide (0 < x.duels) = true := by simpa using h3
  clear h3
  clear h0 htim h h5 hz h1
  go_enter Try.func15, Try.ntmps15
  go_wp2_with fail
  refine (HTIM.out _).mono ?_
  rintro e w5 ⟨rfl, rfl⟩
  go_wp2_with fail
  exact bodyPost_ret (results_pd2 rfl _ _ _ _ _ rfl (hp_new _ _ _ rfl)) rfl ⟨rfl, (Mod.refl _ _).alloc _⟩
set_option maxRecDepth 100000 in
theorem conf_E (B g : Nat) (v : Value) (L : Lad) (now : Int) (w : World) (h : IsL w B g v L) (hl : L.pending.length ≤ 1048576) (h0 : tim now = true) (h1 : ¬ now < L.last) (x : Pd) (hx : L.pending[0]? = some x) (h3 : ¬ 0 < x.duels) (h4 : now < x.deadline) :
    Calls Try.prog 15 #[.pointer (some ⟨g, 0, none⟩), .int .i64 now] w fun e w' => e = .returned (.tuple #[pv Pd.zero, .int .i64 165]) ∧ Mod [] w w' := by
  have htim := fun w1 => time_any now w1
  rw [h0] at htim
  have HTIM := Lib.hid htim
  have hB := fun w1 => run_pd0 w1
  have hz : Try.zeroCells44.size = 90 := by kernel_rfl
  have hS := storeNewPd w Pd.zero _ hz
  have h5 := h.mod0 ((Mod.refl [] w).alloc (.cells Try.zeroCells44 44))
  have hl69 := h5.c69
  have hl66 := h5.c66
  have d1 : decide (now < L.last) = false := by simpa using h1
  obtain ⟨b, cap, hv, hrg, hcap, _⟩ := own_at h5 0 x hx
  have hpos : 0 < L.pending.length := (List.getElem?_eq_some_iff.1 hx).1
  have hne : ((L.pending.length : Int) == 0) = false := by rw [beq_eq_false_iff_ne]; omega
  rw [hv] at hl66
  have hc89 := range_cell hrg 89 _ x.c89
  have hc88 := range_cell hrg 88 _ x.c88
  simp only [Nat.zero_mul, Nat.zero_add] at hc89 hc88
  clear hv hrg hx
  have d3 : decide (0 < x.duels) = false := by simpa using h3
  have d4 : decide (now < x.deadline) = true := by simpa using h4
  clear h3 h4
  clear h0 htim h h5 hz h1
  go_enter Try.func15, Try.ntmps15
  go_wp2_with fail
  refine (HTIM.out _).mono ?_
  rintro e w5 ⟨rfl, rfl⟩
  go_wp2_with fail
  exact bodyPost_ret (results_pd2 rfl _ _ _ _ _ rfl (hp_new _ _ _ rfl)) rfl ⟨rfl, (Mod.refl _ _).alloc _⟩
theorem conf_no (B g : Nat) (v : Value) (L : Lad) (now : Int) (w : World) (h : IsL w B g v L) (hl : L.pending.length ≤ 1048576) (he : L.confErr now ≠ 0) :
    Calls Try.prog 15 #[.pointer (some ⟨g, 0, none⟩), .int .i64 now] w fun e w' => e = .returned (.tuple #[pv Pd.zero, .int .i64 (L.confErr now)]) ∧ Mod [] w w' := by
  unfold Lad.confErr at he ⊢
  by_cases h0 : tim now = false
  · rw [if_pos (.inl h0)]
    exact conf_A B g v L now w h hl h0
  have h0' : tim now = true := by cases h1 : tim now <;> simp_all
  by_cases h1 : now < L.last
  · rw [if_pos (.inr h1)]
    exact conf_B B g v L now w h hl h0' h1
  rw [if_neg (by simp [h0, h1])] at he ⊢
  cases hp : L.pending with
  | nil => exact conf_C B g v L now w h hl h0' h1 hp
  | cons x r =>
    rw [hp] at he
    simp only at he ⊢
    have hx : L.pending[0]? = some x := by rw [hp]; rfl
    by_cases h3 : 0 < x.duels
    · rw [if_pos h3]
      exact conf_D B g v L now w h hl h0' h1 x hx h3
    · rw [if_neg h3] at he ⊢
      by_cases h4 : now < x.deadline
      · rw [if_pos h4]
        exact conf_E B g v L now w h hl h0' h1 x hx h3 h4
      · rw [if_neg h4] at he; exact absurd rfl he
theorem lcells_conf (v : Value) (L : Lad) (c : Cm) : (lcells v L).take 0 ++ (c.cells ++ (lcells v L).drop (0 + c.cells.length)) = lcells v { L with confirmed := c } := by
  unfold lcells
  rw [List.take_zero, List.nil_append, Nat.zero_add, c.len, ← L.confirmed.len, List.drop_left' rfl]
set_option maxRecDepth 100000 in
set_option maxHeartbeats 1000000 in
theorem conf_yes (B g : Nat) (v : Value) (L : Lad) (now : Int) (w : World) (h : IsL w B g v L) (hl : L.pending.length ≤ 1048576) (x : Pd) (r : List Pd) (hp : L.pending = x :: r) (he : L.confErr now = 0) :
    Calls Try.prog 15 #[.pointer (some ⟨g, 0, none⟩), .int .i64 now] w (LadPost B g v { L with confirmed := x.commit, pending := r, last := now } (.tuple #[pv x, .int .i64 0]) w) := by
  have htim := fun w1 => time_any now w1
  unfold Lad.confErr at he
  split at he
  · cases he
  rename_i hA
  simp only [not_or] at hA
  have h0 : tim now = true := by cases h1 : tim now <;> simp_all
  have h1 := hA.2
  rw [hp] at he
  simp only at he
  split at he
  · cases he
  rename_i h3
  split at he
  · cases he
  rename_i h4
  rw [h0] at htim
  have HTIM := Lib.hid htim
  have hx : L.pending[0]? = some x := by rw [hp]; rfl
  have hz : Try.zeroCells44.size = 90 := by kernel_rfl
  have MA := (Mod.refl [] w).alloc (.cells Try.zeroCells44 44)
  have h5 := h.mod0 MA
  have hl69 := h5.c69
  have hl66 := h5.c66
  obtain ⟨b, cap, hv, hrg, hcap, _⟩ := own_at h5 0 x hx
  have hpos : 0 < L.pending.length := (List.getElem?_eq_some_iff.1 hx).1
  have hne : ((L.pending.length : Int) == 0) = false := by rw [beq_eq_false_iff_ne]; omega
  have hv2 := hv
  rw [hv] at hl66
  have hc89 := range_cell hrg 89 _ x.c89
  have hc88 := range_cell hrg 88 _ x.c88
  simp only [Nat.zero_mul, Nat.zero_add] at hc89 hc88
  have hrg0 := hrg
  rw [Nat.zero_mul] at hrg0
  have hLx := loadPd hrg0
  have hSx := storeNewPd (w.alloc (.cells Try.zeroCells44 44)) x _ hz
  rw [show (w.alloc (.cells Try.zeroCells44 44)).heap.size = w.heap.size + 1 by simp] at hSx
  have d1 : decide (now < L.last) = false := by simpa using h1
  have d3 : decide (0 < x.duels) = false := by simpa using h3
  have d4 : decide (now < x.deadline) = false := by simpa using h4
  have M1 := MA.alloc (.cells x.cells.toArray 44)
  have H1 := h.mod0 M1
  have hq69 := H1.c69
  have hqf := H1.frz 69
  have H2 := H1.setLast now
  have hpb : ((w.alloc (.cells Try.zeroCells44 44)).alloc (.cells x.cells.toArray 44)).heap[w.heap.size + 1]? = some (.cells x.cells.toArray 44 (0, 0)) := hp_new _ _ _ (by simp)
  have hgw := h.lt
  have M2 : Mod [g] ((w.alloc (.cells Try.zeroCells44 44)).alloc (.cells x.cells.toArray 44)) (((w.alloc (.cells Try.zeroCells44 44)).alloc (.cells x.cells.toArray 44)).setCell ⟨g, 69, none⟩ (.int .i64 now)) := (Mod.refl [g] _).setCell (.inl (by simp)) _
  have hpb2 := M2.get hpb (by rw [List.mem_singleton]; omega)
  have hrp := range_blk hpb2 0 x.cells (fun j u hu => by simpa using hu)
  have hLc := loadCm (pd_commit hrp)
  rw [Nat.zero_add] at hLc
  have hSt := storeO_blk (P := Try.prog) (ty := 25) (o := 0) (cells := x.commit.cells.toArray) H2.blk (by simp [lcells_length, x.commit.len]) (by simp [x.commit.len, infoCm']) (by simpa using x.commit.one)
  have hcc : ((lcells v { L with last := now }).toArray.toList.take 0 ++ (x.commit.cells.toArray.toList ++ (lcells v { L with last := now }).toArray.toList.drop (0 + x.commit.cells.toArray.size))).toArray = (lcells v { L with last := now, confirmed := x.commit }).toArray := congrArg List.toArray (lcells_conf v { L with last := now } x.commit)
  rw [hcc] at hSt
  change (StoreO _ _ (cv x.commit)).run _ _ = _ at hSt
  have hz0 := M2.get (hp_old (o := .cells x.cells.toArray 44) (hp_new w (.cells Try.zeroCells44 44) _ rfl)) (by rw [List.mem_singleton]; omega)
  obtain ⟨W2, hW2⟩ : ∃ W2, W2 = ((w.alloc (.cells Try.zeroCells44 44)).alloc (.cells x.cells.toArray 44)).setCell ⟨g, 69, none⟩ (.int .i64 now) := ⟨_, rfl⟩
  have HW2 := Lib.hid hW2
  rw [← hW2] at hLc hSt H2 hpb2 hz0 M2
  have M3 : Mod [g] W2 (W2.setRow g (lcells v { L with last := now, confirmed := x.commit }).toArray) := (Mod.refl [g] _).setRow (.inl (by simp)) _
  have H3 : IsL (W2.setRow g (lcells v { L with last := now, confirmed := x.commit }).toArray) B g v { L with last := now, confirmed := x.commit } := ⟨H2.base, hp_setRow H2.blk, H2.own.mod M3 (fun y hy => by rw [List.mem_singleton] at hy; subst hy; exact H2.ne)⟩
  have hl3 := H3.c66
  have hpb3 := M3.get hpb2 (by rw [List.mem_singleton]; omega)
  have hz3 := M3.get hz0 (by rw [List.mem_singleton]; omega)
  have hsz3 : w.heap.size ≤ (W2.setRow g (lcells v { L with last := now, confirmed := x.commit }).toArray).heap.size := Nat.le_trans M1.size (Nat.le_trans M2.size M3.size)
  have MW3 : Mod [g] w (W2.setRow g (lcells v { L with last := now, confirmed := x.commit }).toArray) := ((M1.mono (fun _ hx => by cases hx)).trans M2 (fun y hy => .inl hy)).trans M3 (fun y hy => .inl hy)
  obtain ⟨W3, hW3⟩ : ∃ W3, W3 = W2.setRow g (lcells v { L with last := now, confirmed := x.commit }).toArray := ⟨_, rfl⟩
  rw [← hW3] at hSt H3 hl3 hpb3 hz3 hsz3 MW3
  rw [hv] at hl3
  obtain ⟨p', cap2, hv3, hrd, _⟩ := H3.own.rd
  rw [hv] at hv3
  injection hv3 with e1 e2 e3
  subst e1 e3
  have hrd1 := hrd.drop Pd.len 1 hpos
  have hdr : L.pending.drop 1 = r := by rw [hp]; rfl
  have hrl : L.pending.length - 1 = r.length := by rw [hp]; rfl
  have hrl2 : r.length ≤ 1048576 := by rw [← hrl]; omega
  have HRD := Lib.hid hrd1
  have HDR := Lib.hid hdr
  have HRL := Lib.hid hrl
  have HH3 := Lib.hid H3
  have HPB := Lib.hid hpb3
  have HZ3 := Lib.hid hz3
  have HMW := Lib.hid MW3
  have HV := Lib.hid hv
  have hc1 : 1 ≤ cap := by omega
  have hpos1 : (1 : Int) ≤ (L.pending.length : Int) := by omega
  have hpos2 : (0 : Int) < (L.pending.length : Int) := by omega
  have hW2n : W2 = ((w.setCell ⟨g, 69, none⟩ (.int .i64 now)).alloc (.cells Try.zeroCells44 44)).alloc (.cells x.cells.toArray 44) := by
    rw [hW2, World.setCell_alloc_past _ g 69 _ (by simp; omega), World.setCell_alloc_past _ g 69 _ hgw]
  rw [hW2n] at hLc hSt
  clear hA h0 h1 h3 h4 he htim hx hz MA h5 h hv hv2 e2 hrg hrg0 M1 H1 H2 M2 hpb hpb2 hz0 hW2 hW2n M3 H3 hpb3 hz3 MW3 hW3 hrd hrd1 hdr hrl hp hrp hcc HW2
  go_enter Try.func15, Try.ntmps15
  go_wp2_with fail
  refine (HTIM.out _).mono ?_
  rintro e w5 ⟨rfl, rfl⟩
  go_wp2_with fail
  clear hl69 hl66 hc89 hc88 hLx hSx d1 d3 d4 hq69 hqf hLc hSt hl3
  refine (clone_any (slp (some ⟨b, 0, none⟩) 1 cap 90) (cap - 1) (L.pending.length - 1) r W3 (by rw [← HDR.out]; exact HRD.out) HRL.out hrl2).mono ?_
  rintro e w6 ⟨r', rfl, ho6, m6⟩
  have h6 := HH3.out.mod0 m6
  have hc6 := h6.c66
  rw [HV.out] at hc6
  have hf6 := h6.frz 66
  obtain ⟨p6, cap6, hv6, _⟩ := ho6.rd
  have hgW : g < w.heap.size := hgw
  have hBw : B ≤ W3.heap.size := Nat.le_trans HH3.out.base (Nat.le_of_lt HH3.out.lt)
  have hrow : ∀ y, r'.ownBlock = some y → W3.heap.size ≤ y := ho6.row
  have HL := Lib.hid (IsL.setPend h6.blk h6.base r' r (ho6.mono hBw))
  have hpb7 := ((Mod.refl [g] w6).setCell (p := ⟨g, 66, none⟩) (.inl (by simp)) r').get (m6.get0 HPB.out) (by rw [List.mem_singleton]; omega)
  have hz7 := ((Mod.refl [g] w6).setCell (p := ⟨g, 66, none⟩) (.inl (by simp)) r').get (m6.get0 HZ3.out) (by rw [List.mem_singleton]; omega)
  have hL7 := loadPd (range_blk hpb7 0 x.cells (fun j u hu => by simpa using hu))
  have hS7 := storeAtPd x hz7 (by kernel_rfl)
  have M7 : Mod (foot g v) w (w6.setCell ⟨g, 66, none⟩ r') := Mod.setCell (p := ⟨g, 66, none⟩) ((HMW.out.mono (fun y hy => .inl (mem_foot.2 (.inl (by simpa using hy))))).trans0 m6) (.inl (mem_foot.2 (.inl rfl))) _
  have hg7 := IsL.lt HL.out
  have HM7 := Lib.hid (M7.setRow (g := w.heap.size) (.inr (Nat.le_refl _)) x.cells.toArray)
  have HZ7 := Lib.hid hz7
  have HROW := Lib.hid (fun y (hy : r'.ownBlock = some y) => Nat.le_trans hsz3 (hrow y hy))
  have hgne : r'.ownBlock ≠ some w.heap.size := by
    intro hy
    have h8 := hrow _ hy
    have h9 := lt_of_block HZ3.out
    omega
  have HLF := Lib.hid (HL.out.mod ((Mod.refl [w.heap.size] (w6.setCell ⟨g, 66, none⟩ r')).setRow (g := w.heap.size) (.inl (by simp)) x.cells.toArray) (by rw [List.mem_singleton]; omega) (fun y hy => by rw [List.mem_singleton] at hy; subst hy; exact hgne))
  clear h6 ho6 m6 hrow HL hpb7 hz7 M7 hg7 hgne
  subst hv6
  go_wp2_with fail
  exact bodyPost_ret (results_pd2 rfl _ _ _ _ _ rfl (hp_setRow HZ7.out)) rfl ⟨_, rfl, HLF.out, HM7.out, fun y hy => .inr (HROW.out y hy)⟩
end Go.Proofs.Ytmjdfglidfdkaaa
