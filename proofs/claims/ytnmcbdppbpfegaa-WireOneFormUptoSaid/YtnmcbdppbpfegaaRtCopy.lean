/- 'copies' of wire's laws: what is read is laid as it was read. Condition: at most 2^22 bytes. -/
import Derived.Test.YtnmcbdppbpfegaaRtPure
import Derived.Test.YtnmcbdppbpfegaaRtLay
import Derived.Test.YtnmcbdppbpfegaaWpLaw
namespace Go.Proofs.Ytnmcbdppbpfegaa
open Go.RowKit
attribute [local go_sem high] one8 st8 cm8 b_and8 b_and8r b_and8l b_or8 b_or8r b_or8l b_xor8 b_xor8r b_xor8l b_andNot8 b_andNot8r b_andNot8l b_add8 b_add8r b_add8l b_sub8 b_sub8r b_sub8l b_mul8 b_mul8r b_mul8l b_eql8 b_eql8r b_eql8l b_neq8 b_neq8r b_neq8l b_lss8 b_lss8r b_lss8l b_leq8 b_leq8r b_leq8l b_gtr8 b_gtr8r b_gtr8l b_geq8 b_geq8r b_geq8l b_quo8r b_rem8r b_shl8r b_shr8r b_shl8l b_shr8l u_xor8 g_eql8 g_neq8 g_eql8' g_neq8' one32 st32 cm32 b_and32 b_and32r b_and32l b_or32 b_or32r b_or32l b_xor32 b_xor32r b_xor32l b_andNot32 b_andNot32r b_andNot32l b_add32 b_add32r b_add32l b_sub32 b_sub32r b_sub32l b_mul32 b_mul32r b_mul32l b_eql32 b_eql32r b_eql32l b_neq32 b_neq32r b_neq32l b_lss32 b_lss32r b_lss32l b_leq32 b_leq32r b_leq32l b_gtr32 b_gtr32r b_gtr32l b_geq32 b_geq32r b_geq32l b_quo32r b_rem32r b_shl32r b_shr32r b_shl32l b_shr32l u_xor32 g_eql32 g_neq32 g_eql32' g_neq32' one64 st64 cm64 b_and64 b_and64r b_and64l b_or64 b_or64r b_or64l b_xor64 b_xor64r b_xor64l b_andNot64 b_andNot64r b_andNot64l b_add64 b_add64r b_add64l b_sub64 b_sub64r b_sub64l b_mul64 b_mul64r b_mul64l b_eql64 b_eql64r b_eql64l b_neq64 b_neq64r b_neq64l b_lss64 b_lss64r b_lss64l b_leq64 b_leq64r b_leq64l b_gtr64 b_gtr64r b_gtr64l b_geq64 b_geq64r b_geq64l b_quo64r b_rem64r b_shl64r b_shr64r b_shl64l b_shr64l u_xor64 g_eql64 g_neq64 g_eql64' g_neq64' c_u8_u8 c_u8_u32 c_u8_u64 c_i_u8 c_u32_u8 c_u32_u32 c_u32_u64 c_i_u32 c_u64_u8 c_u64_u32 c_u64_u64 c_i_u64 c_u8_i c_u32_i
attribute [local go_sem ↓] ce8 ce32 ce64
attribute [local go_sem ↓] sliced_slp loadODg storeODg loadOAd storeOAd loadOWd storeOWd loadOSt storeOSt
def spz (k : Int) : Sp := ⟨k, 0, none, 0, [], ⟨[0, 0, 0, 0], rfl⟩, none, 0, []⟩
/-- What stands behind 'copies': all well, and the writer holds what was read; or the reader is broken, and the writer is as it was. -/
def CopyP (B Bw gr gw : Nat) (v vw : Value) (R : Rr) (w : World) (e : Ending) (w' : World) : Prop :=
  ∃ v2 R2, e = .returned (.tuple #[]) ∧ IsR w' B gr v R2 ∧ R2.b = R.b ∧ R.at_ ≤ R2.at_ ∧ Mod (gr :: footB gw vw) w w' ∧
    ((R2.e = 0 ∧ IsW w' Bw gw v2 ⟨R.b.take R2.at_, 0⟩) ∨ (R2.e ≠ 0 ∧ IsW w' Bw gw v2 ⟨R.b.take R.at_, 0⟩)) ∧ ∀ x, v2.ownBlock = some x → vw.ownBlock = some x ∨ w.heap.size ≤ x
theorem tk_ok {α : Type} {R : Rr} {z : α} {p : List UInt8 → Except Int (α × Nat)} (h0 : R.e = 0) (h : (R.tk z p).1.e = 0) (hp : ∀ l er, p l = .error er → er ≠ 0) : ∃ c, p (R.b.drop R.at_) = .ok ((R.tk z p).2, c) ∧ (R.tk z p).1 = { R with at_ := R.at_ + c } := by
  unfold Rr.tk at h ⊢
  rw [if_neg (by simpa using h0)] at h ⊢
  split at h
  · rename_i er he
    exact absurd h (hp _ _ he)
  · rename_i x c he
    rw [he]
    exact ⟨c, rfl, rfl⟩
theorem tk_keeps {α : Type} (R : Rr) (z : α) (p : List UInt8 → Except Int (α × Nat)) : (R.tk z p).1.b = R.b ∧ R.at_ ≤ (R.tk z p).1.at_ := by
  unfold Rr.tk
  split
  · exact ⟨rfl, Nat.le_refl _⟩
  · split
    · exact ⟨rfl, Nat.le_refl _⟩
    · exact ⟨rfl, Nat.le_add_right _ _⟩
theorem e_byteP_err (l : List UInt8) (er : Int) (h : byteP l = .error er) : er ≠ 0 := by
  cases l with
  | nil => injection h with h; subst h; decide
  | cons k r => cases h
theorem e_flagP_err (l : List UInt8) (er : Int) (h : flagP l = .error er) : er ≠ 0 := by
  cases l with
  | nil => injection h with h; subst h; decide
  | cons k r =>
    simp only [flagP] at h
    split at h
    · cases h
    · injection h with h; subst h; decide
theorem e_highP_err (most : Nat) (l : List UInt8) (er : Int) (h : highP most l = .error er) : er ≠ 0 := by
  cases l with
  | nil => injection h with h; subst h; decide
  | cons k r =>
    simp only [highP] at h
    split at h
    · injection h with h; subst h; decide
    split at h
    · injection h with h; subst h; decide
    split at h
    · injection h with h; subst h; decide
    · cases h
theorem e_numP_err (l : List UInt8) (er : Int) (h : numP l = .error er) : er ≠ 0 := by
  unfold numP at h
  split at h
  · rename_i e2 he; injection h with h; subst h; exact e_highP_err _ _ _ he
  · split at h
    · cases h
    · injection h with h; subst h; decide
theorem e_manyP_err (m : Int) (l : List UInt8) (er : Int) (h : manyP m l = .error er) : er ≠ 0 := by
  unfold manyP at h
  split at h
  · rename_i e2 he; injection h with h; subst h; exact e_numP_err _ _ he
  · split at h
    · injection h with h; subst h; decide
    · split at h
      · injection h with h; subst h; decide
      · cases h
theorem e_bytesP_err (m : Int) (l : List UInt8) (er : Int) (h : bytesP m l = .error er) : er ≠ 0 := by
  unfold bytesP at h
  split at h
  · rename_i e2 he; injection h with h; subst h; exact e_manyP_err _ _ _ he
  · cases h
theorem e_wideP_err (l : List UInt8) (er : Int) (h : wideP l = .error er) : er ≠ 0 := by
  unfold wideP at h
  split at h
  · rename_i e2 he; injection h with h; subst h; exact e_highP_err _ _ _ he
  · cases h
theorem e_rowP_err (n : Nat) (l : List UInt8) (er : Int) (h : rowP n l = .error er) : er ≠ 0 := by
  unfold rowP at h
  split at h
  · injection h with h; subst h; decide
  · cases h
theorem num_tk (R : Rr) : R.num = R.tk 0 numP := by
  unfold Rr.num Rr.tk
  split
  · rfl
  · split
    · rename_i h; rw [h]
    · rename_i h; rw [h]
theorem lay_on {l : List UInt8} {a c : Nat} (hl : l.length ≤ 4194304) (hc : c ≤ (l.drop a).length) : (Wr.lay ⟨l.take a, 0⟩ ((l.drop a).take c)) = ⟨l.take (a + c), 0⟩ := by
  unfold Wr.lay
  rw [if_neg (by simp), if_neg (by simp only [List.length_take, List.length_drop] at hc ⊢; omega), List.take_add]
theorem tk_bytes_len (R : Rr) (m : Int) : (R.tk [] (bytesP m)).2.length ≤ R.b.length := by
  unfold Rr.tk
  split
  · exact Nat.zero_le _
  · split
    · exact Nat.zero_le _
    · rename_i x c h
      obtain ⟨h1, h2⟩ := bytesP_form h
      have := congrArg List.length h1
      rw [List.length_append, List.length_take] at this
      rw [List.length_drop] at h2 this
      show x.length ≤ _
      omega
theorem tk_wide_len (R : Rr) : (R.tk [0, 0, 0, 0] wideP).2.length = 4 := by
  unfold Rr.tk
  split
  · rfl
  · split
    · rfl
    · rename_i x c h
      exact wideP_len h
theorem tk_row_len (R : Rr) (n : Nat) : (R.tk (zeros n) (rowP n)).2.length = n := by
  unfold Rr.tk
  split
  · exact zeros_length n
  · split
    · exact zeros_length n
    · rename_i x c h
      exact rowP_len h
theorem firstN_id (x : List UInt8) {n : Nat} (hx : x.length = n) : firstN n x = x := by
  unfold firstN zeros
  subst hx
  simp
theorem byteOf_u8 (x : UInt8) : byteOf ((x.toNat : Nat) : Int) = x := by
  have := x.toNat_lt
  apply UInt8.toNat_inj.1
  unfold byteOf
  rw [UInt8.toNat_ofNat']
  omega
set_option maxRecDepth 100000 in
set_option maxHeartbeats 1000000 in
theorem copies_0 (B Bw gr gw : Nat) (v vw : Value) (R : Rr) (s : Sp) (w : World) (hr : IsR w B gr v R) (he : R.e = 0) (hw : IsW w Bw gw vw ⟨R.b.take R.at_, 0⟩) (hgr : gr < Bw) (hvr : ∀ x, v.ownBlock = some x → x < Bw) (k0 : -9223372036854775808 ≤ s.kind) (k1 : s.kind ≤ 9223372036854775807) (hk : pk s.kind 8 = 0) :
    Calls Try.prog 36 #[.pointer (some ⟨gr, 0, none⟩), .pointer (some ⟨gw, 0, none⟩), spv s] w (CopyP B Bw gr gw v vw R w) := by
  obtain ⟨cs, hcs⟩ : ∃ cs, cs = s.cells.toArray := ⟨_, rfl⟩
  have HPK := Lib.hid (fun w1 => pick_any s.kind 8 w1 k0 k1 (by decide) (by decide))
  rw [hk] at HPK
  have hc0 : cs[0]? = some (.int .i64 s.kind) := by rw [hcs]; simp [Sp.cells]
  have hc1 : cs[1]? = some (.int .i64 s.n) := by rw [hcs]; simp [Sp.cells]
  obtain ⟨W1, hW1⟩ : ∃ W, W = (w.alloc (.cells cs 48)).alloc (.cells (spz 0).cells.toArray 48) := ⟨_, rfl⟩
  have hba : W1.heap[w.heap.size]? = some (.cells s.cells.toArray 48 (0, 0)) := by rw [hW1, hcs]; exact hp_old (hp_new w _ _ rfl)
  have hbz : W1.heap[w.heap.size + 1]? = some (.cells (spz 0).cells.toArray 48 (0, 0)) := by rw [hW1]; exact hp_new _ _ _ (by simp)
  have hm1 : Mod [] w W1 := by rw [hW1]; exact ((Mod.refl [] w).alloc _).alloc _
  have hgl := hr.lt
  have hvl := hr.own_lt
  have hfl := hw.foot_lt
  have hfb := hw.foot_base
  have hgwb := hw.base
  have HI1 := Lib.hid (hr.mod0 hm1)
  have HWI1 := Lib.hid (hw.mod0 hm1)
  have HR0 := Lib.hid hr
  have HA1 := Lib.hid hba
  have HZ1 := Lib.hid hbz
  have HM1 := Lib.hid hm1
  have HW1 := Lib.hid hW1
  have HE := Lib.hid he
  have cn1 := (box_sp hba).fn
  have HVR := Lib.hid hvr
  unfold spv
  rw [← hcs]
  clear hr hw hba hbz hm1 hW1 he hk hcs hvr
  go_enter Try.func36, Try.ntmps36
  go_wp2_with fail
  refine (HPK.out _).mono ?_
  rintro e w0 ⟨rfl, rfl⟩
  go_wp2_with fail
  refine Eq.mpr (congrArg (fun W => Calls _ _ _ W _) (show _ = W1 by rw [HW1.out]; rfl)) ?_
  refine (rByte_any B gr v R W1 HI1.out).mono ?_
  rintro e w2 ⟨rfl, i2, m2⟩
  obtain ⟨x, hx⟩ : ∃ x, x = (R.tk 0 byteP).2 := ⟨_, rfl⟩
  obtain ⟨R2, hR2⟩ : ∃ R2, R2 = (R.tk 0 byteP).1 := ⟨_, rfl⟩
  rw [← hR2] at i2
  have hkeep := tk_keeps R 0 byteP
  rw [← hR2] at hkeep
  rw [← hx]
  have hx8 := x.toNat_lt
  have hb2 := m2.get HZ1.out (by simp; omega)
  have c1 : w2.cell? ⟨w.heap.size + 1, 1, none⟩ = some (.int .i64 0) := (box_sp hb2).fn
  have f1 := frozen_blk hb2 1
  obtain ⟨s2, hs2⟩ : ∃ s2 : Sp, s2 = { spz 0 with n := ((x.toNat : Nat) : Int) } := ⟨_, rfl⟩
  obtain ⟨W3, hW3⟩ : ∃ W, W = w2.setCell ⟨w.heap.size + 1, 1, none⟩ (.int .i64 ((x.toNat : Nat) : Int)) := ⟨_, rfl⟩
  have hb3 : W3.heap[w.heap.size + 1]? = some (.cells s2.cells.toArray 48 (0, 0)) := by rw [hW3, hp_sc hb2, hs2]; rfl
  have m23 : Mod [w.heap.size + 1] w2 W3 := by rw [hW3]; exact (Mod.refl _ _).setCell (p := ⟨w.heap.size + 1, 1, none⟩) (.inl (by simp)) _
  have i3 := i2.mod m23 (by simp; omega) (fun y hy hv => by rw [List.mem_singleton] at hy; subst hy; have := hvl _ hv; omega)
  have wi3 := (HWI1.out.mod m2 (by simp; omega) (fun y hy hv => by rw [List.mem_singleton] at hy; subst hy; have := hfb _ (mem_footB.2 (.inr hv)); omega)).mod m23 (by simp only [List.mem_singleton]; have := hfl gw (mem_footB.2 (.inl rfl)); omega) (fun y hy hv => by rw [List.mem_singleton] at hy; subst hy; have := hfl _ (mem_footB.2 (.inr hv)); omega)
  have m03 : Mod (gr :: footB gw vw) w W3 := ((HM1.out.mono (S' := gr :: footB gw vw) (by simp)).trans m2 (fun y hy => .inl (by simp at hy; simp [hy]))).trans m23 (fun y hy => .inr (by simp at hy; omega))
  have h3 := err_any B gr v R2 W3 i3
  rw [hW3] at h3
  have HE3 := Lib.hid h3
  have I3 := Lib.hid i3
  have WI3 := Lib.hid wi3
  have M03 := Lib.hid m03
  have B3 := Lib.hid hb3
  have HW3 := Lib.hid hW3
  have HX := Lib.hid hx
  have HR2 := Lib.hid hR2
  have HS2 := Lib.hid hs2
  have HKP := Lib.hid hkeep
  have HSZ := Lib.hid (show w.heap.size ≤ W3.heap.size from m03.size)
  clear i2 m2 hb2 hb3 m23 i3 wi3 m03 h3 hW3 hx hR2 hs2 hkeep cn1 hc0 hc1
  go_wp2_with fail
  refine HE3.out.mono ?_
  rintro e w4 ⟨rfl, hw4⟩
  rw [← HW3.out] at hw4
  subst hw4
  by_cases h2 : R2.e = 0
  · have d2 : (R2.e != 0) = false := by simp [h2]
    have bx := box_sp B3.out
    have ck := bx.fk
    have fa := bx.fa
    rw [show s2.kind = 0 by rw [HS2.out]; rfl] at ck
    have H2 := Lib.hid h2
    have HLY := Lib.hid (lays_off Bw gw vw ⟨R.b.take R.at_, 0⟩ w4 WI3.out (by have := HR0.out.len; simp; omega) s2 (B0 := w4.heap.size) ⟨by rw [HS2.out]; show -9223372036854775808 ≤ (((x.toNat : Nat) : Int) : Int); omega, by rw [HS2.out]; show (((x.toNat : Nat) : Int) : Int) ≤ 9223372036854775807; omega, by rw [HS2.out]; exact ⟨by simp [spz], fun hd => absurd rfl hd⟩, fun hd => absurd (by rw [HS2.out]; rfl) hd, by rw [HS2.out]; simp [spz]⟩ (fun hd => absurd (by rw [HS2.out]; rfl) hd) 0 (by decide) (by rw [HS2.out]; rfl))
    clear bx h2
    go_wp2_with fail
    refine HLY.out.mono ?_
    rintro e w9 ⟨v9, rfl, i9, m9, o9⟩
    have I9 := Lib.hid i9
    have M9 := Lib.hid m9
    have O9 := Lib.hid o9
    clear i9 m9 o9 HLY
    go_wp2_with fail
    go_end0
    refine ⟨v9, R2, rfl, I3.out.mod M9.out (fun hx => by have := hfb _ hx; omega) (fun y hy hv => by have := hfb _ hy; have := HVR.out _ hv; omega), HKP.out.1, HKP.out.2, M03.out.trans M9.out (fun y hy => .inl (by simp [hy])), .inl ⟨H2.out, ?_⟩, fun y hy => by
      rcases O9.out y hy with h | h
      · exact .inl h
      · exact .inr (by have := HSZ.out; omega)⟩
    obtain ⟨c, hpc, hRc⟩ := tk_ok (z := 0) HE.out (by rw [← HR2.out]; exact H2.out) e_byteP_err
    rw [← HX.out] at hpc
    rw [← HR2.out] at hRc
    have hfm : s2.form 0 = (R.b.drop R.at_).take c ∧ c ≤ (R.b.drop R.at_).length := by
      have := byteP_form hpc
      rw [HS2.out]
      show [byteOf ((x.toNat : Nat) : Int)] = _ ∧ _
      rw [byteOf_u8]
      exact this
    have := I9.out
    rw [hfm.1, lay_on HR0.out.len hfm.2] at this
    rw [hRc]
    exact this
  · have d2 : (R2.e != 0) = true := by simpa using h2
    go_wp2_with fail
    refine bodyPost_ret (results_none rfl _ _ _) rfl ?_
    exact ⟨vw, R2, rfl, I3.out, HKP.out.1, HKP.out.2, M03.out, .inr ⟨h2, WI3.out⟩, fun y hy => .inl hy⟩
set_option maxRecDepth 100000 in
set_option maxHeartbeats 1000000 in
theorem copies_1 (B Bw gr gw : Nat) (v vw : Value) (R : Rr) (s : Sp) (w : World) (hr : IsR w B gr v R) (he : R.e = 0) (hw : IsW w Bw gw vw ⟨R.b.take R.at_, 0⟩) (hgr : gr < Bw) (hvr : ∀ x, v.ownBlock = some x → x < Bw) (k0 : -9223372036854775808 ≤ s.kind) (k1 : s.kind ≤ 9223372036854775807) (hk : pk s.kind 8 = 1) :
    Calls Try.prog 36 #[.pointer (some ⟨gr, 0, none⟩), .pointer (some ⟨gw, 0, none⟩), spv s] w (CopyP B Bw gr gw v vw R w) := by
  obtain ⟨cs, hcs⟩ : ∃ cs, cs = s.cells.toArray := ⟨_, rfl⟩
  have HPK := Lib.hid (fun w1 => pick_any s.kind 8 w1 k0 k1 (by decide) (by decide))
  rw [hk] at HPK
  have hc0 : cs[0]? = some (.int .i64 s.kind) := by rw [hcs]; simp [Sp.cells]
  have hc1 : cs[1]? = some (.int .i64 s.n) := by rw [hcs]; simp [Sp.cells]
  obtain ⟨W1, hW1⟩ : ∃ W, W = (w.alloc (.cells cs 48)).alloc (.cells (spz 1).cells.toArray 48) := ⟨_, rfl⟩
  have hba : W1.heap[w.heap.size]? = some (.cells s.cells.toArray 48 (0, 0)) := by rw [hW1, hcs]; exact hp_old (hp_new w _ _ rfl)
  have hbz : W1.heap[w.heap.size + 1]? = some (.cells (spz 1).cells.toArray 48 (0, 0)) := by rw [hW1]; exact hp_new _ _ _ (by simp)
  have hm1 : Mod [] w W1 := by rw [hW1]; exact ((Mod.refl [] w).alloc _).alloc _
  have hgl := hr.lt
  have hvl := hr.own_lt
  have hfl := hw.foot_lt
  have hfb := hw.foot_base
  have hgwb := hw.base
  have HI1 := Lib.hid (hr.mod0 hm1)
  have HWI1 := Lib.hid (hw.mod0 hm1)
  have HR0 := Lib.hid hr
  have HA1 := Lib.hid hba
  have HZ1 := Lib.hid hbz
  have HM1 := Lib.hid hm1
  have HW1 := Lib.hid hW1
  have HE := Lib.hid he
  have cn1 := (box_sp hba).fn
  have HVR := Lib.hid hvr
  unfold spv
  rw [← hcs]
  clear hr hw hba hbz hm1 hW1 he hk hcs hvr
  go_enter Try.func36, Try.ntmps36
  go_wp2_with fail
  refine (HPK.out _).mono ?_
  rintro e w0 ⟨rfl, rfl⟩
  go_wp2_with fail
  refine Eq.mpr (congrArg (fun W => Calls _ _ _ W _) (show _ = W1 by rw [HW1.out]; rfl)) ?_
  refine (rFlag_any B gr v R W1 HI1.out).mono ?_
  rintro e w2 ⟨rfl, i2, m2⟩
  obtain ⟨x, hx⟩ : ∃ x, x = (R.tk false flagP).2 := ⟨_, rfl⟩
  obtain ⟨R2, hR2⟩ : ∃ R2, R2 = (R.tk false flagP).1 := ⟨_, rfl⟩
  rw [← hR2] at i2
  have hkeep := tk_keeps R false flagP
  rw [← hR2] at hkeep
  rw [← hx]
  by_cases hxt : x = true
  · skip
    have hb2 := m2.get HZ1.out (by simp; omega)
    have c1 : w2.cell? ⟨w.heap.size + 1, 1, none⟩ = some (.int .i64 0) := (box_sp hb2).fn
    have f1 := frozen_blk hb2 1
    obtain ⟨s2, hs2⟩ : ∃ s2 : Sp, s2 = { spz 1 with n := 1 } := ⟨_, rfl⟩
    obtain ⟨W3, hW3⟩ : ∃ W, W = w2.setCell ⟨w.heap.size + 1, 1, none⟩ (.int .i64 1) := ⟨_, rfl⟩
    have hb3 : W3.heap[w.heap.size + 1]? = some (.cells s2.cells.toArray 48 (0, 0)) := by rw [hW3, hp_sc hb2, hs2]; rfl
    have m23 : Mod [w.heap.size + 1] w2 W3 := by rw [hW3]; exact (Mod.refl _ _).setCell (p := ⟨w.heap.size + 1, 1, none⟩) (.inl (by simp)) _
    have i3 := i2.mod m23 (by simp; omega) (fun y hy hv => by rw [List.mem_singleton] at hy; subst hy; have := hvl _ hv; omega)
    have wi3 := (HWI1.out.mod m2 (by simp; omega) (fun y hy hv => by rw [List.mem_singleton] at hy; subst hy; have := hfb _ (mem_footB.2 (.inr hv)); omega)).mod m23 (by simp only [List.mem_singleton]; have := hfl gw (mem_footB.2 (.inl rfl)); omega) (fun y hy hv => by rw [List.mem_singleton] at hy; subst hy; have := hfl _ (mem_footB.2 (.inr hv)); omega)
    have m03 : Mod (gr :: footB gw vw) w W3 := ((HM1.out.mono (S' := gr :: footB gw vw) (by simp)).trans m2 (fun y hy => .inl (by simp at hy; simp [hy]))).trans m23 (fun y hy => .inr (by simp at hy; omega))
    have h3 := err_any B gr v R2 W3 i3
    rw [hW3] at h3
    have HE3 := Lib.hid h3
    have I3 := Lib.hid i3
    have WI3 := Lib.hid wi3
    have M03 := Lib.hid m03
    have B3 := Lib.hid hb3
    have HW3 := Lib.hid hW3
    have HX := Lib.hid hx
    have HR2 := Lib.hid hR2
    have HS2 := Lib.hid hs2
    have HKP := Lib.hid hkeep
    have HSZ := Lib.hid (show w.heap.size ≤ W3.heap.size from m03.size)
    clear i2 m2 hb2 hb3 m23 i3 wi3 m03 h3 hW3 hx hR2 hs2 hkeep cn1 hc0 hc1
    go_wp2_with fail
    refine HE3.out.mono ?_
    rintro e w4 ⟨rfl, hw4⟩
    rw [← HW3.out] at hw4
    subst hw4
    by_cases h2 : R2.e = 0
    · have d2 : (R2.e != 0) = false := by simp [h2]
      have bx := box_sp B3.out
      have ck := bx.fk
      have fa := bx.fa
      rw [show s2.kind = 1 by rw [HS2.out]; rfl] at ck
      have H2 := Lib.hid h2
      have HLY := Lib.hid (lays_off Bw gw vw ⟨R.b.take R.at_, 0⟩ w4 WI3.out (by have := HR0.out.len; simp; omega) s2 (B0 := w4.heap.size) ⟨by rw [HS2.out]; decide, by rw [HS2.out]; decide, by rw [HS2.out]; exact ⟨by simp [spz], fun hd => absurd rfl hd⟩, fun hd => absurd (by rw [HS2.out]; rfl) hd, by rw [HS2.out]; simp [spz]⟩ (fun hd => absurd (by rw [HS2.out]; rfl) hd) 1 (by decide) (by rw [HS2.out]; rfl))
      clear bx h2
      go_wp2_with fail
      refine HLY.out.mono ?_
      rintro e w9 ⟨v9, rfl, i9, m9, o9⟩
      have I9 := Lib.hid i9
      have M9 := Lib.hid m9
      have O9 := Lib.hid o9
      clear i9 m9 o9 HLY
      go_wp2_with fail
      go_end0
      refine ⟨v9, R2, rfl, I3.out.mod M9.out (fun hx => by have := hfb _ hx; omega) (fun y hy hv => by have := hfb _ hy; have := HVR.out _ hv; omega), HKP.out.1, HKP.out.2, M03.out.trans M9.out (fun y hy => .inl (by simp [hy])), .inl ⟨H2.out, ?_⟩, fun y hy => by
        rcases O9.out y hy with h | h
        · exact .inl h
        · exact .inr (by have := HSZ.out; omega)⟩
      obtain ⟨c, hpc, hRc⟩ := tk_ok (z := false) HE.out (by rw [← HR2.out]; exact H2.out) e_flagP_err
      rw [← HX.out] at hpc
      rw [← HR2.out] at hRc
      have hfm : s2.form 1 = (R.b.drop R.at_).take c ∧ c ≤ (R.b.drop R.at_).length := by
        have := flagP_form hpc
        rw [hxt] at this
        rw [HS2.out]
        exact this
      have := I9.out
      rw [hfm.1, lay_on HR0.out.len hfm.2] at this
      rw [hRc]
      exact this
    · have d2 : (R2.e != 0) = true := by simpa using h2
      go_wp2_with fail
      refine bodyPost_ret (results_none rfl _ _ _) rfl ?_
      exact ⟨vw, R2, rfl, I3.out, HKP.out.1, HKP.out.2, M03.out, .inr ⟨h2, WI3.out⟩, fun y hy => .inl hy⟩

  · have hxt : x = false := by simpa using hxt
    have hb2 := m2.get HZ1.out (by simp; omega)
    obtain ⟨s2, hs2⟩ : ∃ s2 : Sp, s2 = spz 1 := ⟨_, rfl⟩
    obtain ⟨W3, hW3⟩ : ∃ W, W = w2 := ⟨_, rfl⟩
    have hb3 : W3.heap[w.heap.size + 1]? = some (.cells s2.cells.toArray 48 (0, 0)) := by rw [hW3, hb2, hs2]
    have m23 : Mod [w.heap.size + 1] w2 W3 := by rw [hW3]; exact Mod.refl _ _
    have i3 := i2.mod m23 (by simp; omega) (fun y hy hv => by rw [List.mem_singleton] at hy; subst hy; have := hvl _ hv; omega)
    have wi3 := (HWI1.out.mod m2 (by simp; omega) (fun y hy hv => by rw [List.mem_singleton] at hy; subst hy; have := hfb _ (mem_footB.2 (.inr hv)); omega)).mod m23 (by simp only [List.mem_singleton]; have := hfl gw (mem_footB.2 (.inl rfl)); omega) (fun y hy hv => by rw [List.mem_singleton] at hy; subst hy; have := hfl _ (mem_footB.2 (.inr hv)); omega)
    have m03 : Mod (gr :: footB gw vw) w W3 := ((HM1.out.mono (S' := gr :: footB gw vw) (by simp)).trans m2 (fun y hy => .inl (by simp at hy; simp [hy]))).trans m23 (fun y hy => .inr (by simp at hy; omega))
    have h3 := err_any B gr v R2 W3 i3
    rw [hW3] at h3
    have HE3 := Lib.hid h3
    have I3 := Lib.hid i3
    have WI3 := Lib.hid wi3
    have M03 := Lib.hid m03
    have B3 := Lib.hid hb3
    have HW3 := Lib.hid hW3
    have HX := Lib.hid hx
    have HR2 := Lib.hid hR2
    have HS2 := Lib.hid hs2
    have HKP := Lib.hid hkeep
    have HSZ := Lib.hid (show w.heap.size ≤ W3.heap.size from m03.size)
    clear i2 m2 hb2 hb3 m23 i3 wi3 m03 h3 hW3 hx hR2 hs2 hkeep cn1 hc0 hc1
    go_wp2_with fail
    refine HE3.out.mono ?_
    rintro e w4 ⟨rfl, hw4⟩
    rw [← HW3.out] at hw4
    subst hw4
    by_cases h2 : R2.e = 0
    · have d2 : (R2.e != 0) = false := by simp [h2]
      have bx := box_sp B3.out
      have ck := bx.fk
      have fa := bx.fa
      rw [show s2.kind = 1 by rw [HS2.out]; rfl] at ck
      have H2 := Lib.hid h2
      have HLY := Lib.hid (lays_off Bw gw vw ⟨R.b.take R.at_, 0⟩ w4 WI3.out (by have := HR0.out.len; simp; omega) s2 (B0 := w4.heap.size) ⟨by rw [HS2.out]; decide, by rw [HS2.out]; decide, by rw [HS2.out]; exact ⟨by simp [spz], fun hd => absurd rfl hd⟩, fun hd => absurd (by rw [HS2.out]; rfl) hd, by rw [HS2.out]; simp [spz]⟩ (fun hd => absurd (by rw [HS2.out]; rfl) hd) 1 (by decide) (by rw [HS2.out]; rfl))
      clear bx h2
      go_wp2_with fail
      refine HLY.out.mono ?_
      rintro e w9 ⟨v9, rfl, i9, m9, o9⟩
      have I9 := Lib.hid i9
      have M9 := Lib.hid m9
      have O9 := Lib.hid o9
      clear i9 m9 o9 HLY
      go_wp2_with fail
      go_end0
      refine ⟨v9, R2, rfl, I3.out.mod M9.out (fun hx => by have := hfb _ hx; omega) (fun y hy hv => by have := hfb _ hy; have := HVR.out _ hv; omega), HKP.out.1, HKP.out.2, M03.out.trans M9.out (fun y hy => .inl (by simp [hy])), .inl ⟨H2.out, ?_⟩, fun y hy => by
        rcases O9.out y hy with h | h
        · exact .inl h
        · exact .inr (by have := HSZ.out; omega)⟩
      obtain ⟨c, hpc, hRc⟩ := tk_ok (z := false) HE.out (by rw [← HR2.out]; exact H2.out) e_flagP_err
      rw [← HX.out] at hpc
      rw [← HR2.out] at hRc
      have hfm : s2.form 1 = (R.b.drop R.at_).take c ∧ c ≤ (R.b.drop R.at_).length := by
        have := flagP_form hpc
        rw [hxt] at this
        rw [HS2.out]
        exact this
      have := I9.out
      rw [hfm.1, lay_on HR0.out.len hfm.2] at this
      rw [hRc]
      exact this
    · have d2 : (R2.e != 0) = true := by simpa using h2
      go_wp2_with fail
      refine bodyPost_ret (results_none rfl _ _ _) rfl ?_
      exact ⟨vw, R2, rfl, I3.out, HKP.out.1, HKP.out.2, M03.out, .inr ⟨h2, WI3.out⟩, fun y hy => .inl hy⟩
theorem numP_form2 {l : List UInt8} {n c : Nat} (hp : numP l = .ok (n, c)) : form n = l.take c ∧ c ≤ l.length := ⟨numP_form hp, (numP_ok hp).2.2⟩
set_option maxRecDepth 100000 in
set_option maxHeartbeats 1000000 in
theorem copies_2 (B Bw gr gw : Nat) (v vw : Value) (R : Rr) (s : Sp) (w : World) (hr : IsR w B gr v R) (he : R.e = 0) (hw : IsW w Bw gw vw ⟨R.b.take R.at_, 0⟩) (hgr : gr < Bw) (hvr : ∀ x, v.ownBlock = some x → x < Bw) (k0 : -9223372036854775808 ≤ s.kind) (k1 : s.kind ≤ 9223372036854775807) (hk : pk s.kind 8 = 2) :
    Calls Try.prog 36 #[.pointer (some ⟨gr, 0, none⟩), .pointer (some ⟨gw, 0, none⟩), spv s] w (CopyP B Bw gr gw v vw R w) := by
  obtain ⟨cs, hcs⟩ : ∃ cs, cs = s.cells.toArray := ⟨_, rfl⟩
  have HPK := Lib.hid (fun w1 => pick_any s.kind 8 w1 k0 k1 (by decide) (by decide))
  rw [hk] at HPK
  have hc0 : cs[0]? = some (.int .i64 s.kind) := by rw [hcs]; simp [Sp.cells]
  have hc1 : cs[1]? = some (.int .i64 s.n) := by rw [hcs]; simp [Sp.cells]
  obtain ⟨W1, hW1⟩ : ∃ W, W = (w.alloc (.cells cs 48)).alloc (.cells (spz 2).cells.toArray 48) := ⟨_, rfl⟩
  have hba : W1.heap[w.heap.size]? = some (.cells s.cells.toArray 48 (0, 0)) := by rw [hW1, hcs]; exact hp_old (hp_new w _ _ rfl)
  have hbz : W1.heap[w.heap.size + 1]? = some (.cells (spz 2).cells.toArray 48 (0, 0)) := by rw [hW1]; exact hp_new _ _ _ (by simp)
  have hm1 : Mod [] w W1 := by rw [hW1]; exact ((Mod.refl [] w).alloc _).alloc _
  have hgl := hr.lt
  have hvl := hr.own_lt
  have hfl := hw.foot_lt
  have hfb := hw.foot_base
  have hgwb := hw.base
  have HI1 := Lib.hid (hr.mod0 hm1)
  have HWI1 := Lib.hid (hw.mod0 hm1)
  have HR0 := Lib.hid hr
  have HA1 := Lib.hid hba
  have HZ1 := Lib.hid hbz
  have HM1 := Lib.hid hm1
  have HW1 := Lib.hid hW1
  have HE := Lib.hid he
  have cn1 := (box_sp hba).fn
  have HVR := Lib.hid hvr
  unfold spv
  rw [← hcs]
  clear hr hw hba hbz hm1 hW1 he hk hcs hvr
  go_enter Try.func36, Try.ntmps36
  go_wp2_with fail
  refine (HPK.out _).mono ?_
  rintro e w0 ⟨rfl, rfl⟩
  go_wp2_with fail
  refine Eq.mpr (congrArg (fun W => Calls _ _ _ W _) (show _ = W1 by rw [HW1.out]; rfl)) ?_
  have hN := rNumber_any B gr v R W1 HI1.out
  rw [num_tk] at hN
  refine hN.mono ?_
  rintro e w2 ⟨rfl, i2, m2⟩
  clear hN
  obtain ⟨x, hx⟩ : ∃ x, x = (R.tk 0 numP).2 := ⟨_, rfl⟩
  obtain ⟨R2, hR2⟩ : ∃ R2, R2 = (R.tk 0 numP).1 := ⟨_, rfl⟩
  rw [← hR2] at i2
  have hkeep := tk_keeps R 0 numP
  rw [← hR2] at hkeep
  rw [← hx]
  have hb2 := m2.get HZ1.out (by simp; omega)
  have c1 : w2.cell? ⟨w.heap.size + 1, 1, none⟩ = some (.int .i64 0) := (box_sp hb2).fn
  have f1 := frozen_blk hb2 1
  obtain ⟨s2, hs2⟩ : ∃ s2 : Sp, s2 = { spz 2 with n := ((x : Nat) : Int) } := ⟨_, rfl⟩
  obtain ⟨W3, hW3⟩ : ∃ W, W = w2.setCell ⟨w.heap.size + 1, 1, none⟩ (.int .i64 ((x : Nat) : Int)) := ⟨_, rfl⟩
  have hb3 : W3.heap[w.heap.size + 1]? = some (.cells s2.cells.toArray 48 (0, 0)) := by rw [hW3, hp_sc hb2, hs2]; rfl
  have m23 : Mod [w.heap.size + 1] w2 W3 := by rw [hW3]; exact (Mod.refl _ _).setCell (p := ⟨w.heap.size + 1, 1, none⟩) (.inl (by simp)) _
  have i3 := i2.mod m23 (by simp; omega) (fun y hy hv => by rw [List.mem_singleton] at hy; subst hy; have := hvl _ hv; omega)
  have wi3 := (HWI1.out.mod m2 (by simp; omega) (fun y hy hv => by rw [List.mem_singleton] at hy; subst hy; have := hfb _ (mem_footB.2 (.inr hv)); omega)).mod m23 (by simp only [List.mem_singleton]; have := hfl gw (mem_footB.2 (.inl rfl)); omega) (fun y hy hv => by rw [List.mem_singleton] at hy; subst hy; have := hfl _ (mem_footB.2 (.inr hv)); omega)
  have m03 : Mod (gr :: footB gw vw) w W3 := ((HM1.out.mono (S' := gr :: footB gw vw) (by simp)).trans m2 (fun y hy => .inl (by simp at hy; simp [hy]))).trans m23 (fun y hy => .inr (by simp at hy; omega))
  have h3 := err_any B gr v R2 W3 i3
  rw [hW3] at h3
  have HE3 := Lib.hid h3
  have I3 := Lib.hid i3
  have WI3 := Lib.hid wi3
  have M03 := Lib.hid m03
  have B3 := Lib.hid hb3
  have HW3 := Lib.hid hW3
  have HX := Lib.hid hx
  have HR2 := Lib.hid hR2
  have HS2 := Lib.hid hs2
  have HKP := Lib.hid hkeep
  have HSZ := Lib.hid (show w.heap.size ≤ W3.heap.size from m03.size)
  clear i2 m2 hb2 hb3 m23 i3 wi3 m03 h3 hW3 hx hR2 hs2 hkeep cn1 hc0 hc1
  go_wp2_with fail
  refine HE3.out.mono ?_
  rintro e w4 ⟨rfl, hw4⟩
  rw [← HW3.out] at hw4
  subst hw4
  by_cases h2 : R2.e = 0
  · have d2 : (R2.e != 0) = false := by simp [h2]
    have bx := box_sp B3.out
    have ck := bx.fk
    have fa := bx.fa
    rw [show s2.kind = 2 by rw [HS2.out]; rfl] at ck
    have H2 := Lib.hid h2
    have cn := bx.fn
    rw [show s2.n = ((x : Nat) : Int) by rw [HS2.out]] at cn
    have hxn : x < 9223372036854775808 := by
      obtain ⟨c, hpc, _⟩ := tk_ok (z := 0) HE.out (by rw [← HR2.out]; exact h2) e_numP_err
      rw [← HX.out] at hpc
      exact (numP_ok hpc).1
    have hNM := number_any Bw gw vw ⟨R.b.take R.at_, 0⟩ w4 WI3.out (by have := HR0.out.len; simp; omega) ((x : Nat) : Int) (by omega)
    rw [show Wr.number ⟨R.b.take R.at_, 0⟩ ((x : Nat) : Int) = Wr.lay ⟨R.b.take R.at_, 0⟩ (form x) by unfold Wr.number; rw [if_neg (by omega), Int.toNat_natCast]] at hNM
    have HLY := Lib.hid hNM
    clear hNM fa
    clear bx h2
    go_wp2_with fail
    refine HLY.out.mono ?_
    rintro e w9 ⟨v9, rfl, i9, m9, o9⟩
    have I9 := Lib.hid i9
    have M9 := Lib.hid m9
    have O9 := Lib.hid o9
    clear i9 m9 o9 HLY
    go_wp2_with fail
    go_end0
    refine ⟨v9, R2, rfl, I3.out.mod M9.out (fun hx => by have := hfb _ hx; omega) (fun y hy hv => by have := hfb _ hy; have := HVR.out _ hv; omega), HKP.out.1, HKP.out.2, M03.out.trans M9.out (fun y hy => .inl (by simp [hy])), .inl ⟨H2.out, ?_⟩, fun y hy => by
      rcases O9.out y hy with h | h
      · exact .inl h
      · exact .inr (by have := HSZ.out; omega)⟩
    obtain ⟨c, hpc, hRc⟩ := tk_ok (z := 0) HE.out (by rw [← HR2.out]; exact H2.out) e_numP_err
    rw [← HX.out] at hpc
    rw [← HR2.out] at hRc
    have hfm : form x = (R.b.drop R.at_).take c ∧ c ≤ (R.b.drop R.at_).length := by
      exact (numP_form2 hpc)
    have := I9.out
    rw [hfm.1, lay_on HR0.out.len hfm.2] at this
    rw [hRc]
    exact this
  · have d2 : (R2.e != 0) = true := by simpa using h2
    go_wp2_with fail
    refine bodyPost_ret (results_none rfl _ _ _) rfl ?_
    exact ⟨vw, R2, rfl, I3.out, HKP.out.1, HKP.out.2, M03.out, .inr ⟨h2, WI3.out⟩, fun y hy => .inl hy⟩
set_option maxRecDepth 100000 in
set_option maxHeartbeats 1000000 in
theorem copies_3 (B Bw gr gw : Nat) (v vw : Value) (R : Rr) (s : Sp) (w : World) (hr : IsR w B gr v R) (he : R.e = 0) (hw : IsW w Bw gw vw ⟨R.b.take R.at_, 0⟩) (hgr : gr < Bw) (hvr : ∀ x, v.ownBlock = some x → x < Bw) (k0 : -9223372036854775808 ≤ s.kind) (k1 : s.kind ≤ 9223372036854775807) (hk : pk s.kind 8 = 3) :
    Calls Try.prog 36 #[.pointer (some ⟨gr, 0, none⟩), .pointer (some ⟨gw, 0, none⟩), spv s] w (CopyP B Bw gr gw v vw R w) := by
  obtain ⟨cs, hcs⟩ : ∃ cs, cs = s.cells.toArray := ⟨_, rfl⟩
  have HPK := Lib.hid (fun w1 => pick_any s.kind 8 w1 k0 k1 (by decide) (by decide))
  rw [hk] at HPK
  have hc0 : cs[0]? = some (.int .i64 s.kind) := by rw [hcs]; simp [Sp.cells]
  have hc1 : cs[1]? = some (.int .i64 s.n) := by rw [hcs]; simp [Sp.cells]
  obtain ⟨W1, hW1⟩ : ∃ W, W = (w.alloc (.cells cs 48)).alloc (.cells (spz 3).cells.toArray 48) := ⟨_, rfl⟩
  have hba : W1.heap[w.heap.size]? = some (.cells s.cells.toArray 48 (0, 0)) := by rw [hW1, hcs]; exact hp_old (hp_new w _ _ rfl)
  have hbz : W1.heap[w.heap.size + 1]? = some (.cells (spz 3).cells.toArray 48 (0, 0)) := by rw [hW1]; exact hp_new _ _ _ (by simp)
  have hm1 : Mod [] w W1 := by rw [hW1]; exact ((Mod.refl [] w).alloc _).alloc _
  have hgl := hr.lt
  have hvl := hr.own_lt
  have hfl := hw.foot_lt
  have hfb := hw.foot_base
  have hgwb := hw.base
  have HI1 := Lib.hid (hr.mod0 hm1)
  have HWI1 := Lib.hid (hw.mod0 hm1)
  have HR0 := Lib.hid hr
  have HA1 := Lib.hid hba
  have HZ1 := Lib.hid hbz
  have HM1 := Lib.hid hm1
  have HW1 := Lib.hid hW1
  have HE := Lib.hid he
  have cn1 := (box_sp hba).fn
  have HVR := Lib.hid hvr
  unfold spv
  rw [← hcs]
  clear hr hw hba hbz hm1 hW1 he hk hcs hvr
  go_enter Try.func36, Try.ntmps36
  go_wp2_with fail
  refine (HPK.out _).mono ?_
  rintro e w0 ⟨rfl, rfl⟩
  go_wp2_with fail
  refine Eq.mpr (congrArg (fun W => Calls _ _ _ W _) (show _ = W1 by rw [HW1.out]; rfl)) ?_
  refine (rBytes_any B gr v R W1 HI1.out s.n).mono ?_
  rintro e w2 ⟨r2, rfl, o2, i2, m2⟩
  obtain ⟨x, hx⟩ : ∃ x, x = (R.tk [] (bytesP s.n)).2 := ⟨_, rfl⟩
  obtain ⟨R2, hR2⟩ : ∃ R2, R2 = (R.tk [] (bytesP s.n)).1 := ⟨_, rfl⟩
  rw [← hR2] at i2
  have hkeep := tk_keeps R [] (bytesP s.n)
  rw [← hR2] at hkeep
  rw [← hx] at o2
  obtain ⟨pr, cr, hr2, _, hpf⟩ := o2.rd
  subst hr2
  have hb2 := m2.get HZ1.out (by simp; omega)
  have c1 : w2.cell? ⟨w.heap.size + 1, 2, none⟩ = some (.slice none 0 0) := (box_sp hb2).fb
  have f1 := frozen_blk hb2 2
  obtain ⟨s2, hs2⟩ : ∃ s2 : Sp, s2 = { spz 3 with bp := pr, bcap := cr, b := x } := ⟨_, rfl⟩
  obtain ⟨W3, hW3⟩ : ∃ W, W = w2.setCell ⟨w.heap.size + 1, 2, none⟩ (.slice pr x.length cr) := ⟨_, rfl⟩
  have hb3 : W3.heap[w.heap.size + 1]? = some (.cells s2.cells.toArray 48 (0, 0)) := by rw [hW3, hp_sc hb2, hs2]; rfl
  have m23 : Mod [w.heap.size + 1] w2 W3 := by rw [hW3]; exact (Mod.refl _ _).setCell (p := ⟨w.heap.size + 1, 2, none⟩) (.inl (by simp)) _
  have hsW1 : w.heap.size + 1 < W1.heap.size := lt_of_block HZ1.out
  have o3 := o2.mod m23 (fun y hy hv => by rw [List.mem_singleton] at hy; subst hy; have := o2.row _ hv; omega)
  obtain ⟨p3, c3, hv3, rd3, _⟩ := o3.rd
  injection hv3 with hp3 _ hc3
  subst hp3
  subst hc3
  have RD3 := Lib.hid rd3
  have HPF := Lib.hid hpf
  have i3 := i2.mod m23 (by simp; omega) (fun y hy hv => by rw [List.mem_singleton] at hy; subst hy; have := hvl _ hv; omega)
  have wi3 := (HWI1.out.mod m2 (by simp; omega) (fun y hy hv => by rw [List.mem_singleton] at hy; subst hy; have := hfb _ (mem_footB.2 (.inr hv)); omega)).mod m23 (by simp only [List.mem_singleton]; have := hfl gw (mem_footB.2 (.inl rfl)); omega) (fun y hy hv => by rw [List.mem_singleton] at hy; subst hy; have := hfl _ (mem_footB.2 (.inr hv)); omega)
  have m03 : Mod (gr :: footB gw vw) w W3 := ((HM1.out.mono (S' := gr :: footB gw vw) (by simp)).trans m2 (fun y hy => .inl (by simp at hy; simp [hy]))).trans m23 (fun y hy => .inr (by simp at hy; omega))
  have h3 := err_any B gr v R2 W3 i3
  rw [hW3] at h3
  have HE3 := Lib.hid h3
  have I3 := Lib.hid i3
  have WI3 := Lib.hid wi3
  have M03 := Lib.hid m03
  have B3 := Lib.hid hb3
  have HW3 := Lib.hid hW3
  have HX := Lib.hid hx
  have HR2 := Lib.hid hR2
  have HS2 := Lib.hid hs2
  have HKP := Lib.hid hkeep
  have HSZ := Lib.hid (show w.heap.size ≤ W3.heap.size from m03.size)
  clear i2 m2 hb2 hb3 m23 i3 wi3 m03 h3 hW3 hx hR2 hs2 hkeep cn1 hc0 hc1 o2 o3 rd3 hpf
  go_wp2_with fail
  refine HE3.out.mono ?_
  rintro e w4 ⟨rfl, hw4⟩
  rw [← HW3.out] at hw4
  subst hw4
  by_cases h2 : R2.e = 0
  · have d2 : (R2.e != 0) = false := by simp [h2]
    have bx := box_sp B3.out
    have ck := bx.fk
    have fa := bx.fa
    rw [show s2.kind = 3 by rw [HS2.out]; rfl] at ck
    have H2 := Lib.hid h2
    have HLY := Lib.hid (lays_off Bw gw vw ⟨R.b.take R.at_, 0⟩ w4 WI3.out (by have := HR0.out.len; simp; omega) s2 (B0 := w4.heap.size) ⟨by rw [HS2.out]; show -9223372036854775808 ≤ (0 : Int); decide, by rw [HS2.out]; show (0 : Int) ≤ 9223372036854775807; decide, by rw [HS2.out]; exact RD3.out, by rw [HS2.out]; exact RD3.out.lt, by rw [HS2.out]; have h1 := tk_bytes_len R s.n; rw [← HX.out] at h1; have := HR0.out.len; show x.length ≤ _; omega⟩ (fun _ y hy hf => by rw [HS2.out] at hy; have h1 := HPF.out y hy; have h2 := hfl _ hf; omega) 3 (by decide) (by rw [HS2.out]; rfl))
    clear bx h2
    go_wp2_with fail
    refine HLY.out.mono ?_
    rintro e w9 ⟨v9, rfl, i9, m9, o9⟩
    have I9 := Lib.hid i9
    have M9 := Lib.hid m9
    have O9 := Lib.hid o9
    clear i9 m9 o9 HLY
    go_wp2_with fail
    go_end0
    refine ⟨v9, R2, rfl, I3.out.mod M9.out (fun hx => by have := hfb _ hx; omega) (fun y hy hv => by have := hfb _ hy; have := HVR.out _ hv; omega), HKP.out.1, HKP.out.2, M03.out.trans M9.out (fun y hy => .inl (by simp [hy])), .inl ⟨H2.out, ?_⟩, fun y hy => by
      rcases O9.out y hy with h | h
      · exact .inl h
      · exact .inr (by have := HSZ.out; omega)⟩
    obtain ⟨c, hpc, hRc⟩ := tk_ok (z := []) HE.out (by rw [← HR2.out]; exact H2.out) (e_bytesP_err s.n)
    rw [← HX.out] at hpc
    rw [← HR2.out] at hRc
    have hfm : s2.form 3 = (R.b.drop R.at_).take c ∧ c ≤ (R.b.drop R.at_).length := by
      have := bytesP_form hpc
      rw [HS2.out]
      exact this
    have := I9.out
    rw [hfm.1, lay_on HR0.out.len hfm.2] at this
    rw [hRc]
    exact this
  · have d2 : (R2.e != 0) = true := by simpa using h2
    go_wp2_with fail
    refine bodyPost_ret (results_none rfl _ _ _) rfl ?_
    exact ⟨vw, R2, rfl, I3.out, HKP.out.1, HKP.out.2, M03.out, .inr ⟨h2, WI3.out⟩, fun y hy => .inl hy⟩
set_option maxRecDepth 100000 in
set_option maxHeartbeats 1000000 in
theorem copies_4 (B Bw gr gw : Nat) (v vw : Value) (R : Rr) (s : Sp) (w : World) (hr : IsR w B gr v R) (he : R.e = 0) (hw : IsW w Bw gw vw ⟨R.b.take R.at_, 0⟩) (hgr : gr < Bw) (hvr : ∀ x, v.ownBlock = some x → x < Bw) (k0 : -9223372036854775808 ≤ s.kind) (k1 : s.kind ≤ 9223372036854775807) (hk : pk s.kind 8 = 4) :
    Calls Try.prog 36 #[.pointer (some ⟨gr, 0, none⟩), .pointer (some ⟨gw, 0, none⟩), spv s] w (CopyP B Bw gr gw v vw R w) := by
  obtain ⟨cs, hcs⟩ : ∃ cs, cs = s.cells.toArray := ⟨_, rfl⟩
  have HPK := Lib.hid (fun w1 => pick_any s.kind 8 w1 k0 k1 (by decide) (by decide))
  rw [hk] at HPK
  have hc0 : cs[0]? = some (.int .i64 s.kind) := by rw [hcs]; simp [Sp.cells]
  have hc1 : cs[1]? = some (.int .i64 s.n) := by rw [hcs]; simp [Sp.cells]
  obtain ⟨W1, hW1⟩ : ∃ W, W = (w.alloc (.cells cs 48)).alloc (.cells (spz 4).cells.toArray 48) := ⟨_, rfl⟩
  have hba : W1.heap[w.heap.size]? = some (.cells s.cells.toArray 48 (0, 0)) := by rw [hW1, hcs]; exact hp_old (hp_new w _ _ rfl)
  have hbz : W1.heap[w.heap.size + 1]? = some (.cells (spz 4).cells.toArray 48 (0, 0)) := by rw [hW1]; exact hp_new _ _ _ (by simp)
  have hm1 : Mod [] w W1 := by rw [hW1]; exact ((Mod.refl [] w).alloc _).alloc _
  have hgl := hr.lt
  have hvl := hr.own_lt
  have hfl := hw.foot_lt
  have hfb := hw.foot_base
  have hgwb := hw.base
  have HI1 := Lib.hid (hr.mod0 hm1)
  have HWI1 := Lib.hid (hw.mod0 hm1)
  have HR0 := Lib.hid hr
  have HA1 := Lib.hid hba
  have HZ1 := Lib.hid hbz
  have HM1 := Lib.hid hm1
  have HW1 := Lib.hid hW1
  have HE := Lib.hid he
  have cn1 := (box_sp hba).fn
  have HVR := Lib.hid hvr
  unfold spv
  rw [← hcs]
  clear hr hw hba hbz hm1 hW1 he hk hcs hvr
  go_enter Try.func36, Try.ntmps36
  go_wp2_with fail
  refine (HPK.out _).mono ?_
  rintro e w0 ⟨rfl, rfl⟩
  go_wp2_with fail
  refine Eq.mpr (congrArg (fun W => Calls _ _ _ W _) (show _ = W1 by rw [HW1.out]; rfl)) ?_
  refine (rWide_any B gr v R W1 HI1.out).mono ?_
  rintro e w2 ⟨rfl, i2, m2⟩
  obtain ⟨x, hx⟩ : ∃ x, x = (R.tk [0, 0, 0, 0] wideP).2 := ⟨_, rfl⟩
  obtain ⟨R2, hR2⟩ : ∃ R2, R2 = (R.tk [0, 0, 0, 0] wideP).1 := ⟨_, rfl⟩
  rw [← hR2] at i2
  have hkeep := tk_keeps R [0, 0, 0, 0] wideP
  rw [← hR2] at hkeep
  rw [← hx]
  have hxl : x.length = 4 := by rw [hx]; exact tk_wide_len R
  have hb2 := m2.get HZ1.out (by simp; omega)
  obtain ⟨zs, hzs⟩ : ∃ zs, zs = (x.map V64).toArray := ⟨_, rfl⟩
  rw [← hzs]
  have hzl : zs.size = 4 := by rw [hzs]; simp [hxl]
  obtain ⟨s2, hs2⟩ : ∃ s2 : Sp, s2 = { spz 4 with w := ⟨x, hxl⟩ } := ⟨_, rfl⟩
  have hS := storeO_blk (P := Try.prog) (ty := 46) (o := 3) (cells := zs) hb2 (by rw [hzl]; decide) (by rw [hzl]; exact infoWd) (by rw [hzs]; simp [one64])
  have hcl : ((spz 4).cells.toArray.toList.take 3 ++ (zs.toList ++ (spz 4).cells.toArray.toList.drop (3 + zs.size))).toArray = s2.cells.toArray := by
    rw [hzl, hzs, hs2]; simp [Sp.cells, spz]
  rw [hcl] at hS
  obtain ⟨W3, hW3⟩ : ∃ W, W = w2.setRow (w.heap.size + 1) s2.cells.toArray := ⟨_, rfl⟩
  have hb3 : W3.heap[w.heap.size + 1]? = some (.cells s2.cells.toArray 48 (0, 0)) := by rw [hW3]; exact hp_setRow hb2
  have m23 : Mod [w.heap.size + 1] w2 W3 := by rw [hW3]; exact (Mod.refl _ _).setRow (.inl (by simp)) _
  have i3 := i2.mod m23 (by simp; omega) (fun y hy hv => by rw [List.mem_singleton] at hy; subst hy; have := hvl _ hv; omega)
  have wi3 := (HWI1.out.mod m2 (by simp; omega) (fun y hy hv => by rw [List.mem_singleton] at hy; subst hy; have := hfb _ (mem_footB.2 (.inr hv)); omega)).mod m23 (by simp only [List.mem_singleton]; have := hfl gw (mem_footB.2 (.inl rfl)); omega) (fun y hy hv => by rw [List.mem_singleton] at hy; subst hy; have := hfl _ (mem_footB.2 (.inr hv)); omega)
  have m03 : Mod (gr :: footB gw vw) w W3 := ((HM1.out.mono (S' := gr :: footB gw vw) (by simp)).trans m2 (fun y hy => .inl (by simp at hy; simp [hy]))).trans m23 (fun y hy => .inr (by simp at hy; omega))
  have h3 := err_any B gr v R2 W3 i3
  rw [hW3] at h3
  have HE3 := Lib.hid h3
  have I3 := Lib.hid i3
  have WI3 := Lib.hid wi3
  have M03 := Lib.hid m03
  have B3 := Lib.hid hb3
  have HW3 := Lib.hid hW3
  have HX := Lib.hid hx
  have HR2 := Lib.hid hR2
  have HS2 := Lib.hid hs2
  have HKP := Lib.hid hkeep
  have HSZ := Lib.hid (show w.heap.size ≤ W3.heap.size from m03.size)
  obtain ⟨cz, hcz⟩ : ∃ cz, cz = s2.cells.toArray := ⟨_, rfl⟩
  have HCZ := Lib.hid hcz
  have HZS := Lib.hid hzs
  rw [← hcz] at hS HE3 HW3
  clear hcz hzs hcl
  clear i2 m2 hb2 hb3 m23 i3 wi3 m03 h3 hW3 hx hR2 hs2 hkeep cn1 hc0 hc1 
  go_wp2_with fail
  refine HE3.out.mono ?_
  rintro e w4 ⟨rfl, hw4⟩
  rw [← HW3.out] at hw4
  subst hw4
  by_cases h2 : R2.e = 0
  · have d2 : (R2.e != 0) = false := by simp [h2]
    have bx := box_sp B3.out
    have ck := bx.fk
    have fa := bx.fa
    rw [show s2.kind = 4 by rw [HS2.out]; rfl] at ck
    have H2 := Lib.hid h2
    have HLY := Lib.hid (lays_off Bw gw vw ⟨R.b.take R.at_, 0⟩ w4 WI3.out (by have := HR0.out.len; simp; omega) s2 (B0 := w4.heap.size) ⟨by rw [HS2.out]; show -9223372036854775808 ≤ (0 : Int); decide, by rw [HS2.out]; show (0 : Int) ≤ 9223372036854775807; decide, by rw [HS2.out]; exact ⟨by simp [spz], fun hd => absurd rfl hd⟩, fun hd => absurd (by rw [HS2.out]; rfl) hd, by rw [HS2.out]; simp [spz]⟩ (fun hd => absurd (by rw [HS2.out]; rfl) hd) 4 (by decide) (by rw [HS2.out]; rfl))
    clear bx h2
    go_wp2_with fail
    refine HLY.out.mono ?_
    rintro e w9 ⟨v9, rfl, i9, m9, o9⟩
    have I9 := Lib.hid i9
    have M9 := Lib.hid m9
    have O9 := Lib.hid o9
    clear i9 m9 o9 HLY
    go_wp2_with fail
    go_end0
    refine ⟨v9, R2, rfl, I3.out.mod M9.out (fun hx => by have := hfb _ hx; omega) (fun y hy hv => by have := hfb _ hy; have := HVR.out _ hv; omega), HKP.out.1, HKP.out.2, M03.out.trans M9.out (fun y hy => .inl (by simp [hy])), .inl ⟨H2.out, ?_⟩, fun y hy => by
      rcases O9.out y hy with h | h
      · exact .inl h
      · exact .inr (by have := HSZ.out; omega)⟩
    obtain ⟨c, hpc, hRc⟩ := tk_ok (z := [0, 0, 0, 0]) HE.out (by rw [← HR2.out]; exact H2.out) e_wideP_err
    rw [← HX.out] at hpc
    rw [← HR2.out] at hRc
    have hfm : s2.form 4 = (R.b.drop R.at_).take c ∧ c ≤ (R.b.drop R.at_).length := by
      have := wideP_form hpc
      rw [HS2.out]
      exact this
    have := I9.out
    rw [hfm.1, lay_on HR0.out.len hfm.2] at this
    rw [hRc]
    exact this
  · have d2 : (R2.e != 0) = true := by simpa using h2
    go_wp2_with fail
    refine bodyPost_ret (results_none rfl _ _ _) rfl ?_
    exact ⟨vw, R2, rfl, I3.out, HKP.out.1, HKP.out.2, M03.out, .inr ⟨h2, WI3.out⟩, fun y hy => .inl hy⟩
set_option maxRecDepth 100000 in
set_option maxHeartbeats 1000000 in
theorem copies_5 (B Bw gr gw : Nat) (v vw : Value) (R : Rr) (s : Sp) (w : World) (hr : IsR w B gr v R) (he : R.e = 0) (hw : IsW w Bw gw vw ⟨R.b.take R.at_, 0⟩) (hgr : gr < Bw) (hvr : ∀ x, v.ownBlock = some x → x < Bw) (k0 : -9223372036854775808 ≤ s.kind) (k1 : s.kind ≤ 9223372036854775807) (hk : pk s.kind 8 = 5) :
    Calls Try.prog 36 #[.pointer (some ⟨gr, 0, none⟩), .pointer (some ⟨gw, 0, none⟩), spv s] w (CopyP B Bw gr gw v vw R w) := by
  obtain ⟨cs, hcs⟩ : ∃ cs, cs = s.cells.toArray := ⟨_, rfl⟩
  have HPK := Lib.hid (fun w1 => pick_any s.kind 8 w1 k0 k1 (by decide) (by decide))
  rw [hk] at HPK
  have hc0 : cs[0]? = some (.int .i64 s.kind) := by rw [hcs]; simp [Sp.cells]
  have hc1 : cs[1]? = some (.int .i64 s.n) := by rw [hcs]; simp [Sp.cells]
  obtain ⟨W1, hW1⟩ : ∃ W, W = (w.alloc (.cells cs 48)).alloc (.cells (spz 5).cells.toArray 48) := ⟨_, rfl⟩
  have hba : W1.heap[w.heap.size]? = some (.cells s.cells.toArray 48 (0, 0)) := by rw [hW1, hcs]; exact hp_old (hp_new w _ _ rfl)
  have hbz : W1.heap[w.heap.size + 1]? = some (.cells (spz 5).cells.toArray 48 (0, 0)) := by rw [hW1]; exact hp_new _ _ _ (by simp)
  have hm1 : Mod [] w W1 := by rw [hW1]; exact ((Mod.refl [] w).alloc _).alloc _
  have hgl := hr.lt
  have hvl := hr.own_lt
  have hfl := hw.foot_lt
  have hfb := hw.foot_base
  have hgwb := hw.base
  have HI1 := Lib.hid (hr.mod0 hm1)
  have HWI1 := Lib.hid (hw.mod0 hm1)
  have HR0 := Lib.hid hr
  have HA1 := Lib.hid hba
  have HZ1 := Lib.hid hbz
  have HM1 := Lib.hid hm1
  have HW1 := Lib.hid hW1
  have HE := Lib.hid he
  have cn1 := (box_sp hba).fn
  have HVR := Lib.hid hvr
  unfold spv
  rw [← hcs]
  clear hr hw hba hbz hm1 hW1 he hk hcs hvr
  go_enter Try.func36, Try.ntmps36
  go_wp2_with fail
  refine (HPK.out _).mono ?_
  rintro e w0 ⟨rfl, rfl⟩
  go_wp2_with fail
  refine Eq.mpr (congrArg (fun W => Calls _ _ _ W _) (show _ = W1 by rw [HW1.out]; rfl)) ?_
  refine (rDigest_any B gr v R W1 HI1.out).mono ?_
  rintro e w2 ⟨rfl, i2, m2⟩
  obtain ⟨x, hx⟩ : ∃ x, x = (R.tk (zeros 32) (rowP 32)).2 := ⟨_, rfl⟩
  obtain ⟨R2, hR2⟩ : ∃ R2, R2 = (R.tk (zeros 32) (rowP 32)).1 := ⟨_, rfl⟩
  rw [← hR2] at i2
  have hkeep := tk_keeps R (zeros 32) (rowP 32)
  rw [← hR2] at hkeep
  rw [← hx]
  have hxl : x.length = 32 := by rw [hx]; exact tk_row_len R 32
  obtain ⟨zs, hzs⟩ : ∃ zs, zs = (x.map V8).toArray := ⟨_, rfl⟩
  rw [← hzs]
  have hzl : zs.size = 32 := by rw [hzs]; simp [hxl]
  have hbD : (w2.alloc (.cells #[.int .u8 0, .int .u8 0, .int .u8 0, .int .u8 0, .int .u8 0, .int .u8 0, .int .u8 0, .int .u8 0, .int .u8 0, .int .u8 0, .int .u8 0, .int .u8 0, .int .u8 0, .int .u8 0, .int .u8 0, .int .u8 0, .int .u8 0, .int .u8 0, .int .u8 0, .int .u8 0, .int .u8 0, .int .u8 0, .int .u8 0, .int .u8 0, .int .u8 0, .int .u8 0, .int .u8 0, .int .u8 0, .int .u8 0, .int .u8 0, .int .u8 0, .int .u8 0] 88)).heap[w2.heap.size]? = some (.cells #[.int .u8 0, .int .u8 0, .int .u8 0, .int .u8 0, .int .u8 0, .int .u8 0, .int .u8 0, .int .u8 0, .int .u8 0, .int .u8 0, .int .u8 0, .int .u8 0, .int .u8 0, .int .u8 0, .int .u8 0, .int .u8 0, .int .u8 0, .int .u8 0, .int .u8 0, .int .u8 0, .int .u8 0, .int .u8 0, .int .u8 0, .int .u8 0, .int .u8 0, .int .u8 0, .int .u8 0, .int .u8 0, .int .u8 0, .int .u8 0, .int .u8 0, .int .u8 0] 88 (0, 0)) := hp_new _ _ _ rfl
  have hS := storeO_row (P := Try.prog) (ty := 88) (cells := zs) hbD (by rw [hzl]; rfl) (by rw [hzl]; exact info32) (by rw [hzs]; simp [one8])
  have hbD2 : ((w2.alloc (.cells #[.int .u8 0, .int .u8 0, .int .u8 0, .int .u8 0, .int .u8 0, .int .u8 0, .int .u8 0, .int .u8 0, .int .u8 0, .int .u8 0, .int .u8 0, .int .u8 0, .int .u8 0, .int .u8 0, .int .u8 0, .int .u8 0, .int .u8 0, .int .u8 0, .int .u8 0, .int .u8 0, .int .u8 0, .int .u8 0, .int .u8 0, .int .u8 0, .int .u8 0, .int .u8 0, .int .u8 0, .int .u8 0, .int .u8 0, .int .u8 0, .int .u8 0, .int .u8 0] 88)).setRow w2.heap.size zs).heap[w2.heap.size]? = some (.cells zs 88 (0, 0)) := hp_setRow hbD
  have mD : Mod [] w2 ((w2.alloc (.cells #[.int .u8 0, .int .u8 0, .int .u8 0, .int .u8 0, .int .u8 0, .int .u8 0, .int .u8 0, .int .u8 0, .int .u8 0, .int .u8 0, .int .u8 0, .int .u8 0, .int .u8 0, .int .u8 0, .int .u8 0, .int .u8 0, .int .u8 0, .int .u8 0, .int .u8 0, .int .u8 0, .int .u8 0, .int .u8 0, .int .u8 0, .int .u8 0, .int .u8 0, .int .u8 0, .int .u8 0, .int .u8 0, .int .u8 0, .int .u8 0, .int .u8 0, .int .u8 0] 88)).setRow w2.heap.size zs) := ((Mod.refl [] w2).alloc _).setRow (.inr (Nat.le_refl _)) _
  have hRd : Rd V8 ((w2.alloc (.cells #[.int .u8 0, .int .u8 0, .int .u8 0, .int .u8 0, .int .u8 0, .int .u8 0, .int .u8 0, .int .u8 0, .int .u8 0, .int .u8 0, .int .u8 0, .int .u8 0, .int .u8 0, .int .u8 0, .int .u8 0, .int .u8 0, .int .u8 0, .int .u8 0, .int .u8 0, .int .u8 0, .int .u8 0, .int .u8 0, .int .u8 0, .int .u8 0, .int .u8 0, .int .u8 0, .int .u8 0, .int .u8 0, .int .u8 0, .int .u8 0, .int .u8 0, .int .u8 0] 88)).setRow w2.heap.size zs) (some ⟨w2.heap.size, 0, none⟩) 32 x := Rd.of_blk hbD2 (fun j v hv => by rw [hzs]; simpa using hv) (by omega)
  have hOW := own_any (some ⟨w2.heap.size, 0, none⟩) 32 x _ hRd (by omega)
  rw [hxl] at hOW
  have HOW := Lib.hid hOW
  have HMD := Lib.hid mD
  have HB2 := Lib.hid (m2.get HZ1.out (by simp; omega))
  have hD2 : w.heap.size + 1 < w2.heap.size := lt_of_block HB2.out
  have HI2 := Lib.hid i2
  have HM2 := Lib.hid m2
  have HKP0 := Lib.hid hkeep
  have HX0 := Lib.hid hx
  have HR20 := Lib.hid hR2
  have HZS := Lib.hid hzs
  clear hbD hbD2 mD hRd hOW i2 m2 hkeep hx hR2 hzs
  go_wp2_with fail
  refine HOW.out.mono ?_
  rintro e w5 ⟨rfl, hb5, m5⟩
  obtain ⟨ob, hob⟩ : ∃ ob, ob = ((w2.alloc (.cells #[.int .u8 0, .int .u8 0, .int .u8 0, .int .u8 0, .int .u8 0, .int .u8 0, .int .u8 0, .int .u8 0, .int .u8 0, .int .u8 0, .int .u8 0, .int .u8 0, .int .u8 0, .int .u8 0, .int .u8 0, .int .u8 0, .int .u8 0, .int .u8 0, .int .u8 0, .int .u8 0, .int .u8 0, .int .u8 0, .int .u8 0, .int .u8 0, .int .u8 0, .int .u8 0, .int .u8 0, .int .u8 0, .int .u8 0, .int .u8 0, .int .u8 0, .int .u8 0] 88)).setRow w2.heap.size zs).heap.size := ⟨_, rfl⟩
  rw [← hob] at hb5 ⊢
  have hobl : w2.heap.size ≤ ob := by rw [hob]; exact HMD.out.size
  have m2 : Mod [gr] W1 w5 := (HM2.out.trans0 HMD.out).trans0 m5
  have i2 := HI2.out.mod0 (HMD.out.trans0 m5)
  have hkeep := HKP0.out
  have hx := HX0.out
  have hR2 := HR20.out
  have rd5 : Rd V8 w5 (some ⟨ob, 0, none⟩) 32 x := Rd.of_blk hb5 (fun j v hv => by simpa using hv) (by omega)
  clear HOW HMD HB2 HI2 HM2 HKP0 HX0 HR20 m5 hb5 hob hS
  have hb2 := m2.get HZ1.out (by simp; omega)
  have c1 : w5.cell? ⟨w.heap.size + 1, 2, none⟩ = some (.slice none 0 0) := (box_sp hb2).fb
  have f1 := frozen_blk hb2 2
  obtain ⟨s2, hs2⟩ : ∃ s2 : Sp, s2 = { spz 5 with bp := some ⟨ob, 0, none⟩, bcap := 32, b := x } := ⟨_, rfl⟩
  obtain ⟨W3, hW3⟩ : ∃ W, W = w5.setCell ⟨w.heap.size + 1, 2, none⟩ (.slice (some ⟨ob, 0, none⟩) 32 32) := ⟨_, rfl⟩
  have hb3 : W3.heap[w.heap.size + 1]? = some (.cells s2.cells.toArray 48 (0, 0)) := by rw [hW3, hp_sc hb2, hs2]; simp [Sp.cells, spz, hxl]
  have m23 : Mod [w.heap.size + 1] w5 W3 := by rw [hW3]; exact (Mod.refl _ _).setCell (p := ⟨w.heap.size + 1, 2, none⟩) (.inl (by simp)) _
  have rd3 := rd5.mod m23 (fun _ y hy hf => by cases hy; rw [List.mem_singleton] at hf; have : ob = w.heap.size + 1 := hf; omega)
  have RD3 := Lib.hid rd3
  have i3 := i2.mod m23 (by simp; omega) (fun y hy hv => by rw [List.mem_singleton] at hy; subst hy; have := hvl _ hv; omega)
  have wi3 := (HWI1.out.mod m2 (by simp; omega) (fun y hy hv => by rw [List.mem_singleton] at hy; subst hy; have := hfb _ (mem_footB.2 (.inr hv)); omega)).mod m23 (by simp only [List.mem_singleton]; have := hfl gw (mem_footB.2 (.inl rfl)); omega) (fun y hy hv => by rw [List.mem_singleton] at hy; subst hy; have := hfl _ (mem_footB.2 (.inr hv)); omega)
  have m03 : Mod (gr :: footB gw vw) w W3 := ((HM1.out.mono (S' := gr :: footB gw vw) (by simp)).trans m2 (fun y hy => .inl (by simp at hy; simp [hy]))).trans m23 (fun y hy => .inr (by simp at hy; omega))
  have h3 := err_any B gr v R2 W3 i3
  rw [hW3] at h3
  have HE3 := Lib.hid h3
  have I3 := Lib.hid i3
  have WI3 := Lib.hid wi3
  have M03 := Lib.hid m03
  have B3 := Lib.hid hb3
  have HW3 := Lib.hid hW3
  have HX := Lib.hid hx
  have HR2 := Lib.hid hR2
  have HS2 := Lib.hid hs2
  have HKP := Lib.hid hkeep
  have HSZ := Lib.hid (show w.heap.size ≤ W3.heap.size from m03.size)
  clear i2 m2 hb2 hb3 m23 i3 wi3 m03 h3 hW3 hx hR2 hs2 hkeep cn1 hc0 hc1 rd5 rd3
  go_wp2_with fail
  refine HE3.out.mono ?_
  rintro e w4 ⟨rfl, hw4⟩
  rw [← HW3.out] at hw4
  subst hw4
  by_cases h2 : R2.e = 0
  · have d2 : (R2.e != 0) = false := by simp [h2]
    have bx := box_sp B3.out
    have ck := bx.fk
    have fa := bx.fa
    rw [show s2.kind = 5 by rw [HS2.out]; rfl] at ck
    have H2 := Lib.hid h2
    have HLY := Lib.hid (lays_off Bw gw vw ⟨R.b.take R.at_, 0⟩ w4 WI3.out (by have := HR0.out.len; simp; omega) s2 (B0 := w4.heap.size) ⟨by rw [HS2.out]; show -9223372036854775808 ≤ (0 : Int); decide, by rw [HS2.out]; show (0 : Int) ≤ 9223372036854775807; decide, by rw [HS2.out]; exact RD3.out, by rw [HS2.out]; exact RD3.out.lt, by rw [HS2.out]; show x.length ≤ _; omega⟩ (fun _ y hy hf => by rw [HS2.out] at hy; cases hy; have h2 := hfl _ hf; have : ob < w.heap.size := h2; omega) 5 (by decide) (by rw [HS2.out]; rfl))
    clear bx h2
    go_wp2_with fail
    refine HLY.out.mono ?_
    rintro e w9 ⟨v9, rfl, i9, m9, o9⟩
    have I9 := Lib.hid i9
    have M9 := Lib.hid m9
    have O9 := Lib.hid o9
    clear i9 m9 o9 HLY
    go_wp2_with fail
    go_end0
    refine ⟨v9, R2, rfl, I3.out.mod M9.out (fun hx => by have := hfb _ hx; omega) (fun y hy hv => by have := hfb _ hy; have := HVR.out _ hv; omega), HKP.out.1, HKP.out.2, M03.out.trans M9.out (fun y hy => .inl (by simp [hy])), .inl ⟨H2.out, ?_⟩, fun y hy => by
      rcases O9.out y hy with h | h
      · exact .inl h
      · exact .inr (by have := HSZ.out; omega)⟩
    obtain ⟨c, hpc, hRc⟩ := tk_ok (z := zeros 32) HE.out (by rw [← HR2.out]; exact H2.out) (e_rowP_err 32)
    rw [← HX.out] at hpc
    rw [← HR2.out] at hRc
    have hfm : s2.form 5 = (R.b.drop R.at_).take c ∧ c ≤ (R.b.drop R.at_).length := by
      have h8 := rowP_form hpc
      rw [HS2.out]
      show firstN 32 x = _ ∧ _
      rw [firstN_id x hxl]
      exact ⟨h8.1, h8.2.1⟩
    have := I9.out
    rw [hfm.1, lay_on HR0.out.len hfm.2] at this
    rw [hRc]
    exact this
  · have d2 : (R2.e != 0) = true := by simpa using h2
    go_wp2_with fail
    refine bodyPost_ret (results_none rfl _ _ _) rfl ?_
    exact ⟨vw, R2, rfl, I3.out, HKP.out.1, HKP.out.2, M03.out, .inr ⟨h2, WI3.out⟩, fun y hy => .inl hy⟩
set_option maxRecDepth 100000 in
set_option maxHeartbeats 1000000 in
theorem copies_6 (B Bw gr gw : Nat) (v vw : Value) (R : Rr) (s : Sp) (w : World) (hr : IsR w B gr v R) (he : R.e = 0) (hw : IsW w Bw gw vw ⟨R.b.take R.at_, 0⟩) (hgr : gr < Bw) (hvr : ∀ x, v.ownBlock = some x → x < Bw) (k0 : -9223372036854775808 ≤ s.kind) (k1 : s.kind ≤ 9223372036854775807) (hk : pk s.kind 8 = 6) :
    Calls Try.prog 36 #[.pointer (some ⟨gr, 0, none⟩), .pointer (some ⟨gw, 0, none⟩), spv s] w (CopyP B Bw gr gw v vw R w) := by
  obtain ⟨cs, hcs⟩ : ∃ cs, cs = s.cells.toArray := ⟨_, rfl⟩
  have HPK := Lib.hid (fun w1 => pick_any s.kind 8 w1 k0 k1 (by decide) (by decide))
  rw [hk] at HPK
  have hc0 : cs[0]? = some (.int .i64 s.kind) := by rw [hcs]; simp [Sp.cells]
  have hc1 : cs[1]? = some (.int .i64 s.n) := by rw [hcs]; simp [Sp.cells]
  obtain ⟨W1, hW1⟩ : ∃ W, W = (w.alloc (.cells cs 48)).alloc (.cells (spz 6).cells.toArray 48) := ⟨_, rfl⟩
  have hba : W1.heap[w.heap.size]? = some (.cells s.cells.toArray 48 (0, 0)) := by rw [hW1, hcs]; exact hp_old (hp_new w _ _ rfl)
  have hbz : W1.heap[w.heap.size + 1]? = some (.cells (spz 6).cells.toArray 48 (0, 0)) := by rw [hW1]; exact hp_new _ _ _ (by simp)
  have hm1 : Mod [] w W1 := by rw [hW1]; exact ((Mod.refl [] w).alloc _).alloc _
  have hgl := hr.lt
  have hvl := hr.own_lt
  have hfl := hw.foot_lt
  have hfb := hw.foot_base
  have hgwb := hw.base
  have HI1 := Lib.hid (hr.mod0 hm1)
  have HWI1 := Lib.hid (hw.mod0 hm1)
  have HR0 := Lib.hid hr
  have HA1 := Lib.hid hba
  have HZ1 := Lib.hid hbz
  have HM1 := Lib.hid hm1
  have HW1 := Lib.hid hW1
  have HE := Lib.hid he
  have cn1 := (box_sp hba).fn
  have HVR := Lib.hid hvr
  unfold spv
  rw [← hcs]
  clear hr hw hba hbz hm1 hW1 he hk hcs hvr
  go_enter Try.func36, Try.ntmps36
  go_wp2_with fail
  refine (HPK.out _).mono ?_
  rintro e w0 ⟨rfl, rfl⟩
  go_wp2_with fail
  refine Eq.mpr (congrArg (fun W => Calls _ _ _ W _) (show _ = W1 by rw [HW1.out]; rfl)) ?_
  refine (rAddress_any B gr v R W1 HI1.out).mono ?_
  rintro e w2 ⟨rfl, i2, m2⟩
  obtain ⟨x, hx⟩ : ∃ x, x = (R.tk (zeros 20) (rowP 20)).2 := ⟨_, rfl⟩
  obtain ⟨R2, hR2⟩ : ∃ R2, R2 = (R.tk (zeros 20) (rowP 20)).1 := ⟨_, rfl⟩
  rw [← hR2] at i2
  have hkeep := tk_keeps R (zeros 20) (rowP 20)
  rw [← hR2] at hkeep
  rw [← hx]
  have hxl : x.length = 20 := by rw [hx]; exact tk_row_len R 20
  obtain ⟨zs, hzs⟩ : ∃ zs, zs = (x.map V8).toArray := ⟨_, rfl⟩
  rw [← hzs]
  have hzl : zs.size = 20 := by rw [hzs]; simp [hxl]
  have hbD : (w2.alloc (.cells #[.int .u8 0, .int .u8 0, .int .u8 0, .int .u8 0, .int .u8 0, .int .u8 0, .int .u8 0, .int .u8 0, .int .u8 0, .int .u8 0, .int .u8 0, .int .u8 0, .int .u8 0, .int .u8 0, .int .u8 0, .int .u8 0, .int .u8 0, .int .u8 0, .int .u8 0, .int .u8 0] 92)).heap[w2.heap.size]? = some (.cells #[.int .u8 0, .int .u8 0, .int .u8 0, .int .u8 0, .int .u8 0, .int .u8 0, .int .u8 0, .int .u8 0, .int .u8 0, .int .u8 0, .int .u8 0, .int .u8 0, .int .u8 0, .int .u8 0, .int .u8 0, .int .u8 0, .int .u8 0, .int .u8 0, .int .u8 0, .int .u8 0] 92 (0, 0)) := hp_new _ _ _ rfl
  have hS := storeO_row (P := Try.prog) (ty := 92) (cells := zs) hbD (by rw [hzl]; rfl) (by rw [hzl]; exact info20) (by rw [hzs]; simp [one8])
  have hbD2 : ((w2.alloc (.cells #[.int .u8 0, .int .u8 0, .int .u8 0, .int .u8 0, .int .u8 0, .int .u8 0, .int .u8 0, .int .u8 0, .int .u8 0, .int .u8 0, .int .u8 0, .int .u8 0, .int .u8 0, .int .u8 0, .int .u8 0, .int .u8 0, .int .u8 0, .int .u8 0, .int .u8 0, .int .u8 0] 92)).setRow w2.heap.size zs).heap[w2.heap.size]? = some (.cells zs 92 (0, 0)) := hp_setRow hbD
  have mD : Mod [] w2 ((w2.alloc (.cells #[.int .u8 0, .int .u8 0, .int .u8 0, .int .u8 0, .int .u8 0, .int .u8 0, .int .u8 0, .int .u8 0, .int .u8 0, .int .u8 0, .int .u8 0, .int .u8 0, .int .u8 0, .int .u8 0, .int .u8 0, .int .u8 0, .int .u8 0, .int .u8 0, .int .u8 0, .int .u8 0] 92)).setRow w2.heap.size zs) := ((Mod.refl [] w2).alloc _).setRow (.inr (Nat.le_refl _)) _
  have hRd : Rd V8 ((w2.alloc (.cells #[.int .u8 0, .int .u8 0, .int .u8 0, .int .u8 0, .int .u8 0, .int .u8 0, .int .u8 0, .int .u8 0, .int .u8 0, .int .u8 0, .int .u8 0, .int .u8 0, .int .u8 0, .int .u8 0, .int .u8 0, .int .u8 0, .int .u8 0, .int .u8 0, .int .u8 0, .int .u8 0] 92)).setRow w2.heap.size zs) (some ⟨w2.heap.size, 0, none⟩) 20 x := Rd.of_blk hbD2 (fun j v hv => by rw [hzs]; simpa using hv) (by omega)
  have hOW := own_any (some ⟨w2.heap.size, 0, none⟩) 20 x _ hRd (by omega)
  rw [hxl] at hOW
  have HOW := Lib.hid hOW
  have HMD := Lib.hid mD
  have HB2 := Lib.hid (m2.get HZ1.out (by simp; omega))
  have hD2 : w.heap.size + 1 < w2.heap.size := lt_of_block HB2.out
  have HI2 := Lib.hid i2
  have HM2 := Lib.hid m2
  have HKP0 := Lib.hid hkeep
  have HX0 := Lib.hid hx
  have HR20 := Lib.hid hR2
  have HZS := Lib.hid hzs
  clear hbD hbD2 mD hRd hOW i2 m2 hkeep hx hR2 hzs
  go_wp2_with fail
  refine HOW.out.mono ?_
  rintro e w5 ⟨rfl, hb5, m5⟩
  obtain ⟨ob, hob⟩ : ∃ ob, ob = ((w2.alloc (.cells #[.int .u8 0, .int .u8 0, .int .u8 0, .int .u8 0, .int .u8 0, .int .u8 0, .int .u8 0, .int .u8 0, .int .u8 0, .int .u8 0, .int .u8 0, .int .u8 0, .int .u8 0, .int .u8 0, .int .u8 0, .int .u8 0, .int .u8 0, .int .u8 0, .int .u8 0, .int .u8 0] 92)).setRow w2.heap.size zs).heap.size := ⟨_, rfl⟩
  rw [← hob] at hb5 ⊢
  have hobl : w2.heap.size ≤ ob := by rw [hob]; exact HMD.out.size
  have m2 : Mod [gr] W1 w5 := (HM2.out.trans0 HMD.out).trans0 m5
  have i2 := HI2.out.mod0 (HMD.out.trans0 m5)
  have hkeep := HKP0.out
  have hx := HX0.out
  have hR2 := HR20.out
  have rd5 : Rd V8 w5 (some ⟨ob, 0, none⟩) 20 x := Rd.of_blk hb5 (fun j v hv => by simpa using hv) (by omega)
  clear HOW HMD HB2 HI2 HM2 HKP0 HX0 HR20 m5 hb5 hob hS
  have hb2 := m2.get HZ1.out (by simp; omega)
  have c1 : w5.cell? ⟨w.heap.size + 1, 2, none⟩ = some (.slice none 0 0) := (box_sp hb2).fb
  have f1 := frozen_blk hb2 2
  obtain ⟨s2, hs2⟩ : ∃ s2 : Sp, s2 = { spz 6 with bp := some ⟨ob, 0, none⟩, bcap := 20, b := x } := ⟨_, rfl⟩
  obtain ⟨W3, hW3⟩ : ∃ W, W = w5.setCell ⟨w.heap.size + 1, 2, none⟩ (.slice (some ⟨ob, 0, none⟩) 20 20) := ⟨_, rfl⟩
  have hb3 : W3.heap[w.heap.size + 1]? = some (.cells s2.cells.toArray 48 (0, 0)) := by rw [hW3, hp_sc hb2, hs2]; simp [Sp.cells, spz, hxl]
  have m23 : Mod [w.heap.size + 1] w5 W3 := by rw [hW3]; exact (Mod.refl _ _).setCell (p := ⟨w.heap.size + 1, 2, none⟩) (.inl (by simp)) _
  have rd3 := rd5.mod m23 (fun _ y hy hf => by cases hy; rw [List.mem_singleton] at hf; have : ob = w.heap.size + 1 := hf; omega)
  have RD3 := Lib.hid rd3
  have i3 := i2.mod m23 (by simp; omega) (fun y hy hv => by rw [List.mem_singleton] at hy; subst hy; have := hvl _ hv; omega)
  have wi3 := (HWI1.out.mod m2 (by simp; omega) (fun y hy hv => by rw [List.mem_singleton] at hy; subst hy; have := hfb _ (mem_footB.2 (.inr hv)); omega)).mod m23 (by simp only [List.mem_singleton]; have := hfl gw (mem_footB.2 (.inl rfl)); omega) (fun y hy hv => by rw [List.mem_singleton] at hy; subst hy; have := hfl _ (mem_footB.2 (.inr hv)); omega)
  have m03 : Mod (gr :: footB gw vw) w W3 := ((HM1.out.mono (S' := gr :: footB gw vw) (by simp)).trans m2 (fun y hy => .inl (by simp at hy; simp [hy]))).trans m23 (fun y hy => .inr (by simp at hy; omega))
  have h3 := err_any B gr v R2 W3 i3
  rw [hW3] at h3
  have HE3 := Lib.hid h3
  have I3 := Lib.hid i3
  have WI3 := Lib.hid wi3
  have M03 := Lib.hid m03
  have B3 := Lib.hid hb3
  have HW3 := Lib.hid hW3
  have HX := Lib.hid hx
  have HR2 := Lib.hid hR2
  have HS2 := Lib.hid hs2
  have HKP := Lib.hid hkeep
  have HSZ := Lib.hid (show w.heap.size ≤ W3.heap.size from m03.size)
  clear i2 m2 hb2 hb3 m23 i3 wi3 m03 h3 hW3 hx hR2 hs2 hkeep cn1 hc0 hc1 rd5 rd3
  go_wp2_with fail
  refine HE3.out.mono ?_
  rintro e w4 ⟨rfl, hw4⟩
  rw [← HW3.out] at hw4
  subst hw4
  by_cases h2 : R2.e = 0
  · have d2 : (R2.e != 0) = false := by simp [h2]
    have bx := box_sp B3.out
    have ck := bx.fk
    have fa := bx.fa
    rw [show s2.kind = 6 by rw [HS2.out]; rfl] at ck
    have H2 := Lib.hid h2
    have HLY := Lib.hid (lays_off Bw gw vw ⟨R.b.take R.at_, 0⟩ w4 WI3.out (by have := HR0.out.len; simp; omega) s2 (B0 := w4.heap.size) ⟨by rw [HS2.out]; show -9223372036854775808 ≤ (0 : Int); decide, by rw [HS2.out]; show (0 : Int) ≤ 9223372036854775807; decide, by rw [HS2.out]; exact RD3.out, by rw [HS2.out]; exact RD3.out.lt, by rw [HS2.out]; show x.length ≤ _; omega⟩ (fun _ y hy hf => by rw [HS2.out] at hy; cases hy; have h2 := hfl _ hf; have : ob < w.heap.size := h2; omega) 6 (by decide) (by rw [HS2.out]; rfl))
    clear bx h2
    go_wp2_with fail
    refine HLY.out.mono ?_
    rintro e w9 ⟨v9, rfl, i9, m9, o9⟩
    have I9 := Lib.hid i9
    have M9 := Lib.hid m9
    have O9 := Lib.hid o9
    clear i9 m9 o9 HLY
    go_wp2_with fail
    go_end0
    refine ⟨v9, R2, rfl, I3.out.mod M9.out (fun hx => by have := hfb _ hx; omega) (fun y hy hv => by have := hfb _ hy; have := HVR.out _ hv; omega), HKP.out.1, HKP.out.2, M03.out.trans M9.out (fun y hy => .inl (by simp [hy])), .inl ⟨H2.out, ?_⟩, fun y hy => by
      rcases O9.out y hy with h | h
      · exact .inl h
      · exact .inr (by have := HSZ.out; omega)⟩
    obtain ⟨c, hpc, hRc⟩ := tk_ok (z := zeros 20) HE.out (by rw [← HR2.out]; exact H2.out) (e_rowP_err 20)
    rw [← HX.out] at hpc
    rw [← HR2.out] at hRc
    have hfm : s2.form 6 = (R.b.drop R.at_).take c ∧ c ≤ (R.b.drop R.at_).length := by
      have h8 := rowP_form hpc
      rw [HS2.out]
      show firstN 20 x = _ ∧ _
      rw [firstN_id x hxl]
      exact ⟨h8.1, h8.2.1⟩
    have := I9.out
    rw [hfm.1, lay_on HR0.out.len hfm.2] at this
    rw [hRc]
    exact this
  · have d2 : (R2.e != 0) = true := by simpa using h2
    go_wp2_with fail
    refine bodyPost_ret (results_none rfl _ _ _) rfl ?_
    exact ⟨vw, R2, rfl, I3.out, HKP.out.1, HKP.out.2, M03.out, .inr ⟨h2, WI3.out⟩, fun y hy => .inl hy⟩
end Go.Proofs.Ytnmcbdppbpfegaa
