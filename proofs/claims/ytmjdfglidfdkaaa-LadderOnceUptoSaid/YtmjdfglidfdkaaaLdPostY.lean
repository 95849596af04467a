/- Post, where it posts. Condition: the ladder's numbers are in their bounds. -/
import Derived.Test.YtmjdfglidfdkaaaLdPost
import Derived.Deep.RegionLaw
namespace Go.Proofs.Ytmjdfglidfdkaaa
open Go.RowKit
attribute [local go_sem high] one8 st8 cm8 b_and8 b_and8r b_and8l b_or8 b_or8r b_or8l b_xor8 b_xor8r b_xor8l b_andNot8 b_andNot8r b_andNot8l b_add8 b_add8r b_add8l b_sub8 b_sub8r b_sub8l b_mul8 b_mul8r b_mul8l b_eql8 b_eql8r b_eql8l b_neq8 b_neq8r b_neq8l b_lss8 b_lss8r b_lss8l b_leq8 b_leq8r b_leq8l b_gtr8 b_gtr8r b_gtr8l b_geq8 b_geq8r b_geq8l b_quo8r b_rem8r b_shl8r b_shr8r b_shl8l b_shr8l u_xor8 g_eql8 g_neq8 g_eql8' g_neq8' one32 st32 cm32 b_and32 b_and32r b_and32l b_or32 b_or32r b_or32l b_xor32 b_xor32r b_xor32l b_andNot32 b_andNot32r b_andNot32l b_add32 b_add32r b_add32l b_sub32 b_sub32r b_sub32l b_mul32 b_mul32r b_mul32l b_eql32 b_eql32r b_eql32l b_neq32 b_neq32r b_neq32l b_lss32 b_lss32r b_lss32l b_leq32 b_leq32r b_leq32l b_gtr32 b_gtr32r b_gtr32l b_geq32 b_geq32r b_geq32l b_quo32r b_rem32r b_shl32r b_shr32r b_shl32l b_shr32l u_xor32 g_eql32 g_neq32 g_eql32' g_neq32' one64 st64 cm64 b_and64 b_and64r b_and64l b_or64 b_or64r b_or64l b_xor64 b_xor64r b_xor64l b_andNot64 b_andNot64r b_andNot64l b_add64 b_add64r b_add64l b_sub64 b_sub64r b_sub64l b_mul64 b_mul64r b_mul64l b_eql64 b_eql64r b_eql64l b_neq64 b_neq64r b_neq64l b_lss64 b_lss64r b_lss64l b_leq64 b_leq64r b_leq64l b_gtr64 b_gtr64r b_gtr64l b_geq64 b_geq64r b_geq64l b_quo64r b_rem64r b_shl64r b_shr64r b_shl64l b_shr64l u_xor64 g_eql64 g_neq64 g_eql64' g_neq64' c_u8_u8 c_u8_u32 c_u8_u64 c_i_u8 c_u32_u8 c_u32_u32 c_u32_u64 c_i_u32 c_u64_u8 c_u64_u32 c_u64_u64 c_i_u64 c_u8_i c_u32_i
attribute [local go_sem ↓] ce8 ce32 ce64
attribute [local go_sem ↓] sliced_slp loadO25 storeO25 loadO44 storeO44 loadO35 loadO84 storeO84
def BuildO (t : TypeId) (parts : Array (Nat × Value)) : Sem Value := Instr.build t parts
def BuildSlO (t : TypeId) (n : Nat) (parts : Array (Nat × Value)) : Sem Value := Instr.buildSlice t n parts
theorem buildO44 (parts : Array (Nat × Value)) : Instr.build 44 parts = BuildO 44 parts := rfl
theorem buildSlO38 (n : Nat) (parts : Array (Nat × Value)) : Instr.buildSlice 38 n parts = BuildSlO 38 n parts := rfl
attribute [local go_sem ↓] buildO44 buildSlO38
theorem run_pd (n : Int) (c : Cm) (a : A20) (t d : Int) (w : World) : (BuildO 44 #[(0, .int .i64 n), (1, cv c), (2, av a), (3, .int .i64 t), (4, .int .i64 d)]).run Try.prog w = .ok (pv ⟨n, c, a, t, d, 0⟩) w :=
  run_build w _ _ _ (built_pd n c a t d)
theorem run_pd0 (w : World) : (BuildO 44 #[]).run Try.prog w = .ok (pv Pd.zero) w := run_build w _ _ _ built_pd0
theorem run_sl (w : World) (p : Pd) : (BuildSlO 38 1 #[(0, pv p)]).run Try.prog w = .ok (.slice (some ⟨w.heap.size, 0, none⟩) 1 1) (w.alloc (.cells p.cells.toArray 44)) := run_buildPd w p
namespace IsL
variable {w : World} {B g : Nat} {v : Value} {L : Lad}
theorem set_tail (v : Value) (L : Lad) (j : Nat) (u : Value) (hj : j < 4) : (lcells v L).set (66 + j) u = L.confirmed.cells ++ ([v, .int .i64 L.window, .int .i64 L.given, .int .i64 L.last] : List Value).set j u := by
  unfold lcells
  rw [List.set_append_right _ _ (by rw [L.confirmed.len]; omega), L.confirmed.len, Nat.add_sub_cancel_left]
theorem blkSet (h : IsL w B g v L) (j : Nat) (u : Value) : (w.setCell ⟨g, j, none⟩ u).heap[g]? = some (.cells ((lcells v L).set j u).toArray 84 (0, 0)) := by
  have := hp_sc (j := j) (v := u) h.blk
  rw [List.setIfInBounds_toArray] at this
  exact this
theorem ownSet (h : IsL w B g v L) (j : Nat) (u : Value) : OwnP (w.setCell ⟨g, j, none⟩ u) B v L.pending :=
  h.own.mod ((Mod.refl [g] w).setCell (.inl (by simp)) _) (fun x hx => by rw [List.mem_singleton] at hx; subst hx; exact h.ne)
theorem setLast (h : IsL w B g v L) (t : Int) : IsL (w.setCell ⟨g, 69, none⟩ (.int .i64 t)) B g v { L with last := t } :=
  ⟨h.base, (h.blkSet 69 _).trans (by rw [set_tail v L 3 _ (by decide)]; rfl), h.ownSet 69 _⟩
theorem setGiven (h : IsL w B g v L) (t : Int) : IsL (w.setCell ⟨g, 68, none⟩ (.int .i64 t)) B g v { L with given := t } :=
  ⟨h.base, (h.blkSet 68 _).trans (by rw [set_tail v L 2 _ (by decide)]; rfl), h.ownSet 68 _⟩
/-- The list of pending ones becomes another. -/
theorem setPend (h : w.heap[g]? = some (.cells (lcells v L).toArray 84 (0, 0))) (hB : B ≤ g) (v' : Value) (l : List Pd) (ho : OwnP w B v' l) : IsL (w.setCell ⟨g, 66, none⟩ v') B g v' { L with pending := l } := by
  refine ⟨hB, ?_, ho.mod ((Mod.refl [g] w).setCell (.inl (by simp)) _) (fun x hx => ?_)⟩
  · have := hp_sc (j := 66) (v := v') h
    rw [List.setIfInBounds_toArray] at this
    exact this.trans (by rw [set_tail v L 0 _ (by decide)]; rfl)
  · rw [List.mem_singleton] at hx; subst hx
    intro hv
    obtain ⟨C, hb⟩ := ho.type x hv
    rw [h] at hb; injection hb with hb; injection hb with _ h2 _
    exact absurd h2 (by decide)
end IsL
theorem noPanic_intro {Q : Exit → Act → World → Prop} {a : Act} {w : World} (h : Q .normal a w) : NoPanic Q .normal a w := h
/-- A call on a ladder: what it answers, and how the ladder stands. -/
def LadPost (B g : Nat) (v : Value) (L' : Lad) (r : Value) (w : World) (e : Ending) (w' : World) : Prop :=
  ∃ v', e = .returned r ∧ IsL w' B g v' L' ∧ Mod (foot g v) w w' ∧ (∀ x, v'.ownBlock = some x → v.ownBlock = some x ∨ w.heap.size ≤ x)
set_option maxRecDepth 100000 in
set_option maxHeartbeats 2000000 in
theorem post_yes (B g : Nat) (v : Value) (L : Lad) (w : World) (h : IsL w B g v L) (n : Nat) (hn : n ≤ 1048576) (hk : L.Ok n) (c : Cm) (by_ : A20) (inbox now : Int) (he : L.postErr c inbox now = 0) :
    Calls Try.prog 14 #[.pointer (some ⟨g, 0, none⟩), cv c, av by_, .int .i64 inbox, .int .i64 now] w (LadPost B g v (L.posted c by_ now) (.tuple #[.int .i64 (L.given + 1), .int .i64 0]) w) := by
  have hw0 := hk.w0
  have hw1 := hk.w1
  have hg0 := hk.g0
  have hg1 := hk.g1
  have hpl := hk.pl
  obtain ⟨htc, htl⟩ := hk.topOk
  have ht0 := Lad.cnt_bd htc
  have H := Lib.hid h
  have HPL := Lib.hid hpl
  have htop := fun (w1 : World) (h1 : IsL w1 B g v L) => top_any B g v L w1 h1 (by omega)
  unfold Lad.postErr at he
  have e1 : ∀ b : Bool, b ≠ false → b = true := fun b hb => by cases b <;> simp_all
  split at he
  · cases he
  rename_i hA
  split at he
  · cases he
  rename_i hD
  split at he
  · cases he
  rename_i h8
  split at he
  · cases he
  rename_i h9
  simp only [not_or] at hA hD
  obtain ⟨T, hT⟩ : ∃ T, T = L.top := ⟨_, rfl⟩
  rw [← hT] at htop ht0 hD
  obtain ⟨ht0, ht1⟩ := ht0
  have HTOP := Lib.hid htop
  have htim := fun w1 => time_any now w1
  have h0 := e1 _ hA.1
  rw [h0] at htim
  have HTIM := Lib.hid htim
  have hn0 : 0 ≤ now ∧ now ≤ 4611686018427387904 := by unfold tim at h0; simpa using h0
  obtain ⟨hn0, hn1⟩ := hn0
  have hcc := fun w1 => count_any c.count w1
  have h3 := e1 _ hD.1
  rw [h3] at hcc
  have HCC := Lib.hid hcc
  obtain ⟨hc0, hc1⟩ := Lad.cnt_bd h3
  have hcl := fun w1 => count_any c.leaves w1
  rw [e1 _ hD.2.2.2.1] at hcl
  have HCL := Lib.hid hcl
  have d1 : decide (now < L.last) = false := by simp; omega
  have d2 : decide (4611686018427387904 - L.window < now) = false := by simp; omega
  have d4 : decide (c.count ≤ T.count) = false := by simp; omega
  have d5 : decide (1024 < c.count - T.count) = false := by simp; omega
  have d7 : decide (c.leaves < T.leaves) = false := by simp; omega
  have d8 : decide (inbox < c.count) = false := by simp; omega
  have d9 : decide ((32 : Int) ≤ (L.pending.length : Int)) = false := by simp; omega
  have hsum : now + L.window ≤ 4611686018427387904 := by omega
  clear h hpl hk e1 he hA hD h8 h9 htim h0 hcc h3 hcl htc htl htop hT
  unfold cv av
  go_enter Try.func14, Try.ntmps14
  go_wp2_with fail
  have MA := ((Mod.refl [] w).alloc (.cells c.cells.toArray 25)).alloc (.cells (by_.1.map V8).toArray 35)
  refine (HTOP.out _ (H.out.mod0 MA)).mono ?_
  rintro e w5 ⟨rfl, m5⟩
  have M5 := (MA.trans0 m5).alloc (.cells T.cells.toArray 25)
  have hS := storeNewCm w5 T
  have H5 := Lib.hid (H.out.mod0 M5)
  have HX := Lib.hid (hp_old (o := .cells T.cells.toArray 25) (m5.get0 (hp_old (hp_new w (.cells c.cells.toArray 25) _ rfl))))
  have HY := Lib.hid (hp_old (o := .cells T.cells.toArray 25) (m5.get0 (hp_new (w.alloc (.cells c.cells.toArray 25)) (.cells (by_.1.map V8).toArray 35) _ rfl)))
  have hx0 : (w5.alloc (.cells T.cells.toArray 25)).cell? ⟨w.heap.size, 0, none⟩ = some (.int .i64 c.count) := by
    rw [cell_blk HX.out, List.getElem?_toArray]; exact c.c0
  have hx65 : (w5.alloc (.cells T.cells.toArray 25)).cell? ⟨w.heap.size, 65, none⟩ = some (.int .i64 c.leaves) := by
    rw [cell_blk HX.out, List.getElem?_toArray]; exact c.c65
  obtain ⟨hy0, hy65⟩ := box_cm w5 T
  have hl69 := H5.out.c69
  have hl68 := H5.out.c68
  have hl67 := H5.out.c67
  have hl66 := H5.out.c66
  have hf69 := H5.out.frz 69
  have hf68 := H5.out.frz 68
  obtain ⟨p, cap, hv, _⟩ := H5.out.own.rd
  rw [hv] at hl66
  have HV := Lib.hid hv
  clear MA m5 hv
  go_wp2_with fail
  clear hS
  refine (HTIM.out _).mono ?_
  rintro e w6 ⟨rfl, rfl⟩
  go_wp2_with fail
  refine (HCC.out _).mono ?_
  rintro e w6 ⟨rfl, rfl⟩
  go_wp2_with fail
  refine (HCL.out _).mono ?_
  rintro e w6 ⟨rfl, rfl⟩
  go_wp2_with fail
  obtain ⟨W, hW⟩ : ∃ W, W = ((w5.alloc (.cells T.cells.toArray 25)).setCell ⟨g, 69, none⟩ (.int .i64 now)).setCell ⟨g, 68, none⟩ (.int .i64 (L.given + 1)) := ⟨_, rfl⟩
  have HLW := Lib.hid (show IsL W B g v { { L with last := now } with given := L.given + 1 } by rw [hW]; exact (H5.out.setLast now).setGiven (L.given + 1))
  have MG : Mod [g] (w5.alloc (.cells T.cells.toArray 25)) W := by rw [hW]; exact ((Mod.refl [g] _).setCell (.inl (by simp)) _).setCell (.inl (by simp)) _
  have MW : Mod [g] w W := (M5.mono (fun _ hx => by cases hx)).trans MG (fun x hx => .inl hx)
  have hgw : g < w.heap.size := H.out.lt
  have HXW := Lib.hid (MG.get HX.out (by rw [List.mem_singleton]; omega))
  have HYW := Lib.hid (MG.get HY.out (by rw [List.mem_singleton]; simp; omega))
  rw [← hW]
  have hq66 : W.drew.cell? ⟨g, 66, none⟩ = some (.slice p L.pending.length cap) := by rw [← HV.out]; exact HLW.out.c66
  have hq68 : W.drew.cell? ⟨g, 68, none⟩ = some (.int .i64 (L.given + 1)) := HLW.out.c68
  have hq67 : W.drew.cell? ⟨g, 67, none⟩ = some (.int .i64 L.window) := HLW.out.c67
  have hqf : W.drew.frozen? ⟨g, 66, none⟩ = false := HLW.out.frz 66
  have hLc : (LoadO 25 (.pointer (some ⟨w.heap.size, 0, none⟩))).run Try.prog W.drew = .ok (cv c) W.drew := loadCm (w := W.drew) (range_blk (hp_drew HXW.out) 0 _ (fun j u hu => by simpa using hu))
  have hLa : (LoadO 35 (.pointer (some ⟨w.heap.size + 1, 0, none⟩))).run Try.prog W.drew = .ok (av by_) W.drew := by
    have h1 := HYW.out
    rw [show (w.alloc (.cells c.cells.toArray 25)).heap.size = w.heap.size + 1 by simp] at h1
    have h2 := loadO_row (P := Try.prog) (ty := 35) (hp_drew h1) Try.underlying35 rfl (by simp [by_.2, infoAd'])
    exact h2
  have hBd := fun w1 => run_pd (L.given + 1) c by_ now (now + L.window) w1
  have hsz := MG.size
  have HMW := Lib.hid MW
  have HSZ := Lib.hid (Nat.le_trans M5.size MG.size)
  clear hW hx0 hx65 hy0 hy65 hl69 hl68 hl67 hl66 hf69 hf68 M5 H5 HX HY MG MW HTOP HTIM HCC HCL d1 d2 d4 d5 d7 d8 d9 hsz
  have hqa : ∀ o : Obj, (W.alloc o).drew.cell? ⟨g, 66, none⟩ = some (.slice p L.pending.length cap) := fun o => by rw [← HV.out]; exact (HLW.out.mod0 (((Mod.refl [] W).alloc o).drew)).c66
  have HPW := Lib.hid (show OwnP (W.alloc (.cells (Pd.cells ⟨L.given + 1, c, by_, now, now + L.window, 0⟩).toArray 44)).drew B (.slice p L.pending.length cap) L.pending by rw [← HV.out]; exact HLW.out.own.mod0 (((Mod.refl [] W).alloc _).drew))
  have hSl := fun w1 => run_sl w1 ⟨L.given + 1, c, by_, now, now + L.window, 0⟩
  have hwrp : IntKind.i64.wrap (now + L.window) = now + L.window := wrI _ (by omega) (by omega)
  have hsum0 : 0 ≤ now + L.window := by omega
  unfold cv av at hBd
  have hu25 := Try.underlying25
  have hi25 : (Try.prog.info? 25).map (·.size) = some c.cells.length := by rw [c.len]; exact infoCm'
  have hu35 := Try.underlying35
  have hi35 : (Try.prog.info? 35).map (·.size) = some (by_.1.map V8).length := by rw [List.length_map, by_.2]; exact infoAd'
  have hkeep : ∀ W' : World, (∀ x, v.ownBlock ≠ some x → x < W.heap.size → W'.heap[x]? = W.heap[x]?) → W'.cell? ⟨g, 67, none⟩ = some (.int .i64 L.window) ∧ W'.cell? ⟨g, 68, none⟩ = some (.int .i64 (L.given + 1)) ∧ W'.rangeAt w.heap.size 0 c.cells ∧ W'.rangeAt (w.heap.size + 1) 0 (by_.1.map V8) := by
    intro W' hW'
    have hown : ∀ x, v.ownBlock = some x → x < w.heap.size := H.out.own.lt
    refine ⟨(World.cell?_of_block (hW' g HLW.out.ne HLW.out.lt)).trans HLW.out.c67, (World.cell?_of_block (hW' g HLW.out.ne HLW.out.lt)).trans HLW.out.c68, ?_, ?_⟩
    · exact range_blk ((hW' _ (fun hx => by have := hown _ hx; omega) (lt_of_block HXW.out)).trans HXW.out) 0 _ (fun j u hu => by simpa using hu)
    · have h1 := HYW.out
      rw [show (w.alloc (.cells c.cells.toArray 25)).heap.size = w.heap.size + 1 by simp] at h1
      exact range_blk ((hW' _ (fun hx => by have := hown _ hx; omega) (lt_of_block h1)).trans h1) 0 _ (fun j u hu => by simpa using hu)
  have HKEEP := Lib.hid hkeep
  have hLc2 := fun (w1 : World) (hr : w1.rangeAt w.heap.size 0 c.cells) => loadCm hr
  have hLa2 : ∀ w1 : World, w1.rangeAt (w.heap.size + 1) 0 (by_.1.map V8) → (LoadO 35 (.pointer (some ⟨w.heap.size + 1, 0, none⟩))).run Try.prog w1 = .ok (.agg (by_.1.map V8).toArray) w1 := fun w1 hr => loadO_mid hr hu35 rfl hi35
  unfold cv at hLc2
  clear hLc hLa hq68 hq67 hkeep
  refine wp_region_noPanic ?_
  refine wp_region_held_drew (S := fun w' => w'.cell? ⟨g, 67, none⟩ = some (.int .i64 L.window) ∧ w'.cell? ⟨g, 68, none⟩ = some (.int .i64 (L.given + 1)) ∧ w'.rangeAt w.heap.size 0 c.cells ∧ w'.rangeAt (w.heap.size + 1) 0 (by_.1.map V8)) (by kernel_rfl) (HKEEP.out _ (fun x hx hlt => rfl)) (fun hHeld => ?_)
  refine wpAnyH_take (i := 0) (v := ?_) rfl (by kernel_rfl) (by kernel_rfl) (by kernel_rfl) (fun _ _ _ h => h) (Or.inl ⟨by rfl, ?_⟩) (by assumption) ?_
  rotate_left
  · (intro w' hSw; obtain ⟨hs67, hs68, hsc, hsa⟩ := hSw; go_simp; try with_reducible rfl)
  try simp only [Act.put, List.setIfInBounds_toArray, List.set_cons_zero, List.set_cons_succ]
  refine wpAnyH_take (i := 1) (v := ?_) rfl (by kernel_rfl) (by kernel_rfl) (by kernel_rfl) (fun _ _ _ h => h) (Or.inl ⟨by rfl, ?_⟩) (by assumption) ?_
  rotate_left
  · (intro w' hSw; obtain ⟨hs67, hs68, hsc, hsa⟩ := hSw; go_simp; try with_reducible rfl)
  try simp only [Act.put, List.setIfInBounds_toArray, List.set_cons_zero, List.set_cons_succ]
  refine wpAnyH_take (i := 2) (v := ?_) rfl (by kernel_rfl) (by kernel_rfl) (by kernel_rfl) (fun _ _ _ h => h) (Or.inl ⟨by rfl, ?_⟩) (by assumption) ?_
  rotate_left
  · (intro w' hSw; obtain ⟨hs67, hs68, hsc, hsa⟩ := hSw; go_simp; try with_reducible rfl)
  try simp only [Act.put, List.setIfInBounds_toArray, List.set_cons_zero, List.set_cons_succ]
  refine wpAnyH_take (i := 3) (v := ?_) rfl (by kernel_rfl) (by kernel_rfl) (by kernel_rfl) (fun _ _ _ h => h) (Or.inl ⟨by rfl, ?_⟩) (by assumption) ?_
  rotate_left
  · (intro w' hSw; obtain ⟨hs67, hs68, hsc, hsa⟩ := hSw; go_simp; try with_reducible rfl)
  try simp only [Act.put, List.setIfInBounds_toArray, List.set_cons_zero, List.set_cons_succ]
  refine wpAnyH_take (i := 5) (v := ?_) rfl (by kernel_rfl) (by kernel_rfl) (by kernel_rfl) (fun _ _ _ h => h) (Or.inl ⟨by rfl, ?_⟩) (by assumption) ?_
  rotate_left
  · (intro w' hSw; obtain ⟨hs67, hs68, hsc, hsa⟩ := hSw; go_simp; try with_reducible rfl)
  try simp only [Act.put, List.setIfInBounds_toArray, List.set_cons_zero, List.set_cons_succ]
  refine wpAnyH_take (i := 6) (v := ?_) rfl (by kernel_rfl) (by kernel_rfl) (by kernel_rfl) (fun _ _ _ h => h) (Or.inl ⟨by rfl, ?_⟩) (by assumption) ?_
  rotate_left
  · (intro w' hSw; obtain ⟨hs67, hs68, hsc, hsa⟩ := hSw; go_simp; try with_reducible rfl)
  try simp only [Act.put, List.setIfInBounds_toArray, List.set_cons_zero, List.set_cons_succ]
  refine wpAnyH_take (i := 7) (v := ?_) rfl (by kernel_rfl) (by kernel_rfl) (by kernel_rfl) (fun _ _ _ h => h) (Or.inl ⟨by rfl, ?_⟩) (by assumption) ?_
  rotate_left
  · (intro w' hSw; obtain ⟨hs67, hs68, hsc, hsa⟩ := hSw; go_simp; try with_reducible rfl)
  try simp only [Act.put, List.setIfInBounds_toArray, List.set_cons_zero, List.set_cons_succ]
  refine wpAnyH_take (i := 8) (v := ?_) rfl (by kernel_rfl) (by kernel_rfl) (by kernel_rfl) (fun _ _ _ h => h) (Or.inl ⟨by rfl, ?_⟩) (by assumption) ?_
  rotate_left
  · (intro w' hSw; obtain ⟨hs67, hs68, hsc, hsa⟩ := hSw; go_simp; try with_reducible rfl)
  try simp only [Act.put, List.setIfInBounds_toArray, List.set_cons_zero, List.set_cons_succ]
  refine wpAnyH_take (i := 9) (v := ?_) rfl (by kernel_rfl) (by kernel_rfl) (by kernel_rfl) (fun _ _ _ h => h) (Or.inl ⟨by rfl, ?_⟩) (by assumption) ?_
  rotate_left
  · (intro w' hSw; obtain ⟨hs67, hs68, hsc, hsa⟩ := hSw; go_simp; try with_reducible rfl)
  try simp only [Act.put, List.setIfInBounds_toArray, List.set_cons_zero, List.set_cons_succ]
  refine wpAnyH_take (i := 10) (v := ?_) rfl (by kernel_rfl) (by kernel_rfl) (by kernel_rfl) (fun _ _ _ h => h) (Or.inl ⟨by rfl, ?_⟩) (by assumption) ?_
  rotate_left
  · (intro w' hSw; obtain ⟨hs67, hs68, hsc, hsa⟩ := hSw; go_simp; try with_reducible rfl)
  try simp only [Act.put, List.setIfInBounds_toArray, List.set_cons_zero, List.set_cons_succ]
  refine wpAnyH_take (i := 11) (v := ?_) rfl (by kernel_rfl) (by kernel_rfl) (by kernel_rfl) (fun _ _ _ h => h) (Or.inl ⟨by rfl, ?_⟩) (by assumption) ?_
  rotate_left
  · (intro w' hSw; obtain ⟨hs67, hs68, hsc, hsa⟩ := hSw; go_simp; try with_reducible rfl)
  try simp only [Act.put, List.setIfInBounds_toArray, List.set_cons_zero, List.set_cons_succ]
  refine wpAnyH_take (i := 12) (v := ?_) rfl (by kernel_rfl) (by kernel_rfl) (by kernel_rfl) (fun _ _ _ h => h) (Or.inl ⟨by rfl, ?_⟩) (by assumption) ?_
  rotate_left
  · (intro w' hSw; obtain ⟨hs67, hs68, hsc, hsa⟩ := hSw; go_simp; try with_reducible rfl)
  try simp only [Act.put, List.setIfInBounds_toArray, List.set_cons_zero, List.set_cons_succ]
  refine wpAnyH_take (i := 13) (v := ?_) rfl (by kernel_rfl) (by kernel_rfl) (by kernel_rfl) (fun _ _ _ h => h) (Or.inl ⟨by rfl, ?_⟩) (by assumption) ?_
  rotate_left
  · (intro w' hSw; obtain ⟨hs67, hs68, hsc, hsa⟩ := hSw; go_simp; try with_reducible rfl)
  try simp only [Act.put, List.setIfInBounds_toArray, List.set_cons_zero, List.set_cons_succ]
  refine wpAnyH_take (i := 14) (v := ?_) rfl (by kernel_rfl) (by kernel_rfl) (by kernel_rfl) (fun _ _ _ h => h) (Or.inl ⟨by rfl, ?_⟩) (by assumption) ?_
  rotate_left
  · (intro w' hSw; obtain ⟨hs67, hs68, hsc, hsa⟩ := hSw; go_simp; try with_reducible rfl)
  try simp only [Act.put, List.setIfInBounds_toArray, List.set_cons_zero, List.set_cons_succ]
  refine wpAnyH_take (i := 15) (v := ?_) rfl (by kernel_rfl) (by kernel_rfl) (by kernel_rfl) (fun _ _ _ h => h) (Or.inl ⟨by rfl, ?_⟩) (by assumption) ?_
  rotate_left
  · (intro w' hSw; obtain ⟨hs67, hs68, hsc, hsa⟩ := hSw; go_simp; try with_reducible rfl)
  try simp only [Act.put, List.setIfInBounds_toArray, List.set_cons_zero, List.set_cons_succ]
  refine wpAnyH_take (i := 16) (v := ?_) rfl (by kernel_rfl) (by kernel_rfl) (by kernel_rfl) (fun _ _ _ h => h) (Or.inl ⟨by rfl, ?_⟩) (by assumption) ?_
  rotate_left
  · (intro w' hSw; obtain ⟨hs67, hs68, hsc, hsa⟩ := hSw; go_simp; try with_reducible rfl)
  try simp only [Act.put, List.setIfInBounds_toArray, List.set_cons_zero, List.set_cons_succ]
  refine wpAnyH_take (i := 17) (v := ?_) rfl (by kernel_rfl) (by kernel_rfl) (by kernel_rfl) (fun _ _ _ h => h) (Or.inl ⟨by rfl, ?_⟩) (by assumption) ?_
  rotate_left
  · (intro w' hSw; obtain ⟨hs67, hs68, hsc, hsa⟩ := hSw; go_simp; try with_reducible rfl)
  try simp only [Act.put, List.setIfInBounds_toArray, List.set_cons_zero, List.set_cons_succ]
  refine wpAnyH_take (i := 18) (v := ?_) rfl (by kernel_rfl) (by kernel_rfl) (by kernel_rfl) (fun _ _ _ h => h) (Or.inl ⟨by rfl, ?_⟩) (by assumption) ?_
  rotate_left
  · (intro w' hSw; obtain ⟨hs67, hs68, hsc, hsa⟩ := hSw; go_simp; try with_reducible rfl)
  try simp only [Act.put, List.setIfInBounds_toArray, List.set_cons_zero, List.set_cons_succ]
  refine wpAnyH_ready (rs := [4, 19]) (by kernel_rfl) (by simp) ?_
  refine AllReadyH.cons rfl (fun K hK => ?_) (AllReadyH.cons rfl (fun K hK => ?_) AllReadyH.nil)
  · go_simp
    refine hK.out _ _ (HKEEP.out _ (fun x hx hlt => rfl)) (fun hHeld2 => ?_)
    clear hK K
    try simp only [Act.put, List.setIfInBounds_toArray, List.set_cons_zero, List.set_cons_succ]
    refine wpAnyH_ready (rs := [19]) (by kernel_rfl) (by simp) ?_
    refine AllReadyH.cons rfl (fun K hK => ?_) AllReadyH.nil
    go_simp
    refine hK.out _ _ (HKEEP.out _ (fun x hx hlt => (((Mod.refl [] W).alloc _).drew).block x hlt (by simp))) (fun hHeld3 => ?_)
    clear hK K
    try simp only [Act.put, List.setIfInBounds_toArray, List.set_cons_zero, List.set_cons_succ]
    refine wpAnyH_ready (rs := [20]) (by kernel_rfl) (by simp) ?_
    refine AllReadyH.cons rfl (fun K hK => ?_) AllReadyH.nil
    refine step_pushN (pv Pd.zero) 136 Try.underlying38 infoPd (by rw [pv]; exact Pd.zero.len) (by decide) Pd.len Pd.one rfl (.tmp 94) (.tmp 109) rfl B (.slice p L.pending.length cap) L.pending HPW.out rfl W.heap.size 0 1 1 [⟨L.given + 1, c, by_, now, now + L.window, 0⟩] rfl rfl (range_blk (hp_drew (hp_new _ _ _ rfl)) 0 _ (fun j u hu => by simpa using hu)) (by have := HPL.out; unfold maxLen; simp; omega) (by have := HPL.out; simp; omega) (by have := H.out.base; have := HSZ.out; have := H.out.lt; simp; omega) ?_
    intro v' w8 ho8 hg8 hb8
    obtain ⟨p8, cap8, hv8, _⟩ := ho8.rd
    have hv9 : v' = .slice p8 (L.pending.length + 1) cap8 := by rw [hv8]; simp
    clear hv8
    subst hv9
    have hblk8 := Lib.hid ((hg8.block g (by have := HLW.out.lt; simp; omega) (fun hx => HLW.out.ne (by rw [HV.out]; exact hx.symm))).trans (hp_drew (hp_old (o := .cells (Pd.cells ⟨L.given + 1, c, by_, now, now + L.window, 0⟩).toArray 44) HLW.out.blk)))
    have hq8 : w8.cell? ⟨g, 66, none⟩ = some v := by rw [cell_blk hblk8.out, List.getElem?_toArray]; exact lcells_tail v _ 0
    have hf8 : w8.frozen? ⟨g, 66, none⟩ = false := frozen_blk hblk8.out 66
    have HO8 := Lib.hid ho8
    have HG8 := Lib.hid hg8
    have HB8 := Lib.hid hb8
    have HK8 := Lib.hid (fun (x : Nat) (hx : v.ownBlock ≠ some x) (hlt : x < W.heap.size) => (hg8.block x (by simp; omega) (fun he => hx (by rw [HV.out]; exact he.symm))).trans ((((Mod.refl [] W).alloc _).drew).block x hlt (by simp)))
    clear ho8 hg8 hb8
    have HL9 := Lib.hid (IsL.setPend hblk8.out HLW.out.base (.slice p8 (L.pending.length + 1) cap8) _ HO8.out)
    have HS9 := Lib.hid (show (w8.setCell ⟨g, 66, none⟩ (.slice p8 (L.pending.length + 1) cap8)).rangeAt w.heap.size 0 c.cells ∧ (w8.setCell ⟨g, 66, none⟩ (.slice p8 (L.pending.length + 1) cap8)).rangeAt (w.heap.size + 1) 0 (by_.1.map V8) from ⟨range_mod ((Mod.refl [g] w8).setCell (.inl (by simp)) _) (HKEEP.out w8 HK8.out).2.2.1 (by rw [List.mem_singleton]; have := H.out.lt; omega), range_mod ((Mod.refl [g] w8).setCell (.inl (by simp)) _) (HKEEP.out w8 HK8.out).2.2.2 (by rw [List.mem_singleton]; have := H.out.lt; omega)⟩)
    refine hK.out _ _ (HKEEP.out _ (fun x hx hlt => HK8.out x hx hlt)) (fun hHeld4 => ?_)
    clear hK K
    try simp only [Act.put, List.setIfInBounds_toArray, List.set_cons_zero, List.set_cons_succ]
    refine wpAnyH_ready (rs := [21]) (by kernel_rfl) (by simp) ?_
    refine AllReadyH.cons rfl (fun K hK => ?_) AllReadyH.nil
    go_simp
    refine hK.out _ _ (HKEEP.out _ (fun x hx hlt => HK8.out x hx hlt)) (fun hHeld5 => ?_)
    clear hK K
    try simp only [Act.put, List.setIfInBounds_toArray, List.set_cons_zero, List.set_cons_succ]
    refine wpAnyH_ready (rs := [22]) (by kernel_rfl) (by simp) ?_
    refine AllReadyH.cons rfl (fun K hK => ?_) AllReadyH.nil
    go_simp
    refine hK.out _ _ (HKEEP.out _ (fun x hx hlt => HK8.out x hx hlt)) (fun hHeld6 => ?_)
    clear hK K
    try simp only [Act.put, List.setIfInBounds_toArray, List.set_cons_zero, List.set_cons_succ]
    refine wpAnyH_ready (rs := [23]) (by kernel_rfl) (by simp) ?_
    refine AllReadyH.cons rfl (fun K hK => ?_) AllReadyH.nil
    go_simp
    refine hK.out _ _ (⟨HL9.out.c67, HL9.out.c68, HS9.out.1, HS9.out.2⟩) (fun hHeld7 => ?_)
    clear hK K
    try simp only [Act.put, List.setIfInBounds_toArray, List.set_cons_zero, List.set_cons_succ]
    refine wpAnyH_done (by kernel_rfl) ?_ _
    refine noPanic_intro ?_
    have M8 : Mod (foot g v) w w8 := by
      have m1 : Mod (foot g v) w W := HMW.out.mono (fun x hx => .inl (mem_foot.2 (.inl (by simpa using hx))))
      refine ((m1.alloc _).drew).of_grown HG8.out (fun x hx => .inl (mem_foot.2 (.inr ?_)))
      rw [HV.out]; exact hx
    have M9 : Mod (foot g v) w (w8.setCell ⟨g, 66, none⟩ (.slice p8 (L.pending.length + 1) cap8)) := M8.setCell (.inl (mem_foot.2 (.inl rfl))) _
    have HM9 := Lib.hid M9
    have hr68 := HL9.out.c68
    clear M8 M9 hq8 hf8
    go_wp2_with fail
    go_ret2
    refine ⟨_, rfl, HL9.out, HM9.out, fun x hx => ?_⟩
    rcases HB8.out with h8 | h8
    · left; rw [HV.out, ← h8]; exact hx
    · right
      rw [h8] at hx
      injection hx with hx
      have := HSZ.out
      simp at hx
      omega
  · go_simp
    refine hK.out _ _ (HKEEP.out _ (fun x hx hlt => (((Mod.refl [] W).alloc _).drew).block x hlt (by simp))) (fun hHeld2 => ?_)
    clear hK K
    try simp only [Act.put, List.setIfInBounds_toArray, List.set_cons_zero, List.set_cons_succ]
    refine wpAnyH_ready (rs := [4]) (by kernel_rfl) (by simp) ?_
    refine AllReadyH.cons rfl (fun K hK => ?_) AllReadyH.nil
    go_simp
    refine hK.out _ _ (HKEEP.out _ (fun x hx hlt => (((Mod.refl [] W).alloc _).drew).block x hlt (by simp))) (fun hHeld3 => ?_)
    clear hK K
    try simp only [Act.put, List.setIfInBounds_toArray, List.set_cons_zero, List.set_cons_succ]
    refine wpAnyH_ready (rs := [20]) (by kernel_rfl) (by simp) ?_
    refine AllReadyH.cons rfl (fun K hK => ?_) AllReadyH.nil
    refine step_pushN (pv Pd.zero) 136 Try.underlying38 infoPd (by rw [pv]; exact Pd.zero.len) (by decide) Pd.len Pd.one rfl (.tmp 94) (.tmp 109) rfl B (.slice p L.pending.length cap) L.pending HPW.out rfl W.heap.size 0 1 1 [⟨L.given + 1, c, by_, now, now + L.window, 0⟩] rfl rfl (range_blk (hp_drew (hp_new _ _ _ rfl)) 0 _ (fun j u hu => by simpa using hu)) (by have := HPL.out; unfold maxLen; simp; omega) (by have := HPL.out; simp; omega) (by have := H.out.base; have := HSZ.out; have := H.out.lt; simp; omega) ?_
    intro v' w8 ho8 hg8 hb8
    obtain ⟨p8, cap8, hv8, _⟩ := ho8.rd
    have hv9 : v' = .slice p8 (L.pending.length + 1) cap8 := by rw [hv8]; simp
    clear hv8
    subst hv9
    have hblk8 := Lib.hid ((hg8.block g (by have := HLW.out.lt; simp; omega) (fun hx => HLW.out.ne (by rw [HV.out]; exact hx.symm))).trans (hp_drew (hp_old (o := .cells (Pd.cells ⟨L.given + 1, c, by_, now, now + L.window, 0⟩).toArray 44) HLW.out.blk)))
    have hq8 : w8.cell? ⟨g, 66, none⟩ = some v := by rw [cell_blk hblk8.out, List.getElem?_toArray]; exact lcells_tail v _ 0
    have hf8 : w8.frozen? ⟨g, 66, none⟩ = false := frozen_blk hblk8.out 66
    have HO8 := Lib.hid ho8
    have HG8 := Lib.hid hg8
    have HB8 := Lib.hid hb8
    have HK8 := Lib.hid (fun (x : Nat) (hx : v.ownBlock ≠ some x) (hlt : x < W.heap.size) => (hg8.block x (by simp; omega) (fun he => hx (by rw [HV.out]; exact he.symm))).trans ((((Mod.refl [] W).alloc _).drew).block x hlt (by simp)))
    clear ho8 hg8 hb8
    have HL9 := Lib.hid (IsL.setPend hblk8.out HLW.out.base (.slice p8 (L.pending.length + 1) cap8) _ HO8.out)
    have HS9 := Lib.hid (show (w8.setCell ⟨g, 66, none⟩ (.slice p8 (L.pending.length + 1) cap8)).rangeAt w.heap.size 0 c.cells ∧ (w8.setCell ⟨g, 66, none⟩ (.slice p8 (L.pending.length + 1) cap8)).rangeAt (w.heap.size + 1) 0 (by_.1.map V8) from ⟨range_mod ((Mod.refl [g] w8).setCell (.inl (by simp)) _) (HKEEP.out w8 HK8.out).2.2.1 (by rw [List.mem_singleton]; have := H.out.lt; omega), range_mod ((Mod.refl [g] w8).setCell (.inl (by simp)) _) (HKEEP.out w8 HK8.out).2.2.2 (by rw [List.mem_singleton]; have := H.out.lt; omega)⟩)
    refine hK.out _ _ (HKEEP.out _ (fun x hx hlt => HK8.out x hx hlt)) (fun hHeld4 => ?_)
    clear hK K
    try simp only [Act.put, List.setIfInBounds_toArray, List.set_cons_zero, List.set_cons_succ]
    refine wpAnyH_ready (rs := [21]) (by kernel_rfl) (by simp) ?_
    refine AllReadyH.cons rfl (fun K hK => ?_) AllReadyH.nil
    go_simp
    refine hK.out _ _ (HKEEP.out _ (fun x hx hlt => HK8.out x hx hlt)) (fun hHeld5 => ?_)
    clear hK K
    try simp only [Act.put, List.setIfInBounds_toArray, List.set_cons_zero, List.set_cons_succ]
    refine wpAnyH_ready (rs := [22]) (by kernel_rfl) (by simp) ?_
    refine AllReadyH.cons rfl (fun K hK => ?_) AllReadyH.nil
    go_simp
    refine hK.out _ _ (HKEEP.out _ (fun x hx hlt => HK8.out x hx hlt)) (fun hHeld6 => ?_)
    clear hK K
    try simp only [Act.put, List.setIfInBounds_toArray, List.set_cons_zero, List.set_cons_succ]
    refine wpAnyH_ready (rs := [23]) (by kernel_rfl) (by simp) ?_
    refine AllReadyH.cons rfl (fun K hK => ?_) AllReadyH.nil
    go_simp
    refine hK.out _ _ (⟨HL9.out.c67, HL9.out.c68, HS9.out.1, HS9.out.2⟩) (fun hHeld7 => ?_)
    clear hK K
    try simp only [Act.put, List.setIfInBounds_toArray, List.set_cons_zero, List.set_cons_succ]
    refine wpAnyH_done (by kernel_rfl) ?_ _
    refine noPanic_intro ?_
    have M8 : Mod (foot g v) w w8 := by
      have m1 : Mod (foot g v) w W := HMW.out.mono (fun x hx => .inl (mem_foot.2 (.inl (by simpa using hx))))
      refine ((m1.alloc _).drew).of_grown HG8.out (fun x hx => .inl (mem_foot.2 (.inr ?_)))
      rw [HV.out]; exact hx
    have M9 : Mod (foot g v) w (w8.setCell ⟨g, 66, none⟩ (.slice p8 (L.pending.length + 1) cap8)) := M8.setCell (.inl (mem_foot.2 (.inl rfl))) _
    have HM9 := Lib.hid M9
    have hr68 := HL9.out.c68
    clear M8 M9 hq8 hf8
    go_wp2_with fail
    go_ret2
    refine ⟨_, rfl, HL9.out, HM9.out, fun x hx => ?_⟩
    rcases HB8.out with h8 | h8
    · left; rw [HV.out, ← h8]; exact hx
    · right
      rw [h8] at hx
      injection hx with hx
      have := HSZ.out
      simp at hx
      omega
end Go.Proofs.Ytmjdfglidfdkaaa
