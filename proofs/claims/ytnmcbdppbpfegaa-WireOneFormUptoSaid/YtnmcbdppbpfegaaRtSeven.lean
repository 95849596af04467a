/- 'copies' of wire's laws, the kind of lists of lists; all kinds. Condition: at most 2^22 bytes. -/
import Derived.Test.YtnmcbdppbpfegaaRtTakes
namespace Go.Proofs.Ytnmcbdppbpfegaa
open Go.RowKit
attribute [local go_sem high] one8 st8 cm8 b_and8 b_and8r b_and8l b_or8 b_or8r b_or8l b_xor8 b_xor8r b_xor8l b_andNot8 b_andNot8r b_andNot8l b_add8 b_add8r b_add8l b_sub8 b_sub8r b_sub8l b_mul8 b_mul8r b_mul8l b_eql8 b_eql8r b_eql8l b_neq8 b_neq8r b_neq8l b_lss8 b_lss8r b_lss8l b_leq8 b_leq8r b_leq8l b_gtr8 b_gtr8r b_gtr8l b_geq8 b_geq8r b_geq8l b_quo8r b_rem8r b_shl8r b_shr8r b_shl8l b_shr8l u_xor8 g_eql8 g_neq8 g_eql8' g_neq8' one32 st32 cm32 b_and32 b_and32r b_and32l b_or32 b_or32r b_or32l b_xor32 b_xor32r b_xor32l b_andNot32 b_andNot32r b_andNot32l b_add32 b_add32r b_add32l b_sub32 b_sub32r b_sub32l b_mul32 b_mul32r b_mul32l b_eql32 b_eql32r b_eql32l b_neq32 b_neq32r b_neq32l b_lss32 b_lss32r b_lss32l b_leq32 b_leq32r b_leq32l b_gtr32 b_gtr32r b_gtr32l b_geq32 b_geq32r b_geq32l b_quo32r b_rem32r b_shl32r b_shr32r b_shl32l b_shr32l u_xor32 g_eql32 g_neq32 g_eql32' g_neq32' one64 st64 cm64 b_and64 b_and64r b_and64l b_or64 b_or64r b_or64l b_xor64 b_xor64r b_xor64l b_andNot64 b_andNot64r b_andNot64l b_add64 b_add64r b_add64l b_sub64 b_sub64r b_sub64l b_mul64 b_mul64r b_mul64l b_eql64 b_eql64r b_eql64l b_neq64 b_neq64r b_neq64l b_lss64 b_lss64r b_lss64l b_leq64 b_leq64r b_leq64l b_gtr64 b_gtr64r b_gtr64l b_geq64 b_geq64r b_geq64l b_quo64r b_rem64r b_shl64r b_shr64r b_shl64l b_shr64l u_xor64 g_eql64 g_neq64 g_eql64' g_neq64' c_u8_u8 c_u8_u32 c_u8_u64 c_i_u8 c_u32_u8 c_u32_u32 c_u32_u64 c_i_u32 c_u64_u8 c_u64_u32 c_u64_u64 c_i_u64 c_u8_i c_u32_i
attribute [local go_sem ↓] ce8 ce32 ce64
attribute [local go_sem ↓] sliced_slp loadODg storeODg loadOAd storeOAd loadOWd storeOWd loadOSt storeOSt
theorem forms_len (xs : List SlR) : xs.length ≤ (forms xs).length := by
  induction xs with
  | nil => exact Nat.le_refl _
  | cons y xs ih =>
    have : forms (y :: xs) = (form y.d.length ++ y.d) ++ forms xs := rfl
    rw [this, List.length_append, List.length_append, List.length_cons]
    have : 0 < (form y.d.length).length := by simp [form, short]
    omega
theorem forms_take (xs : List SlR) (n : Nat) : (forms (xs.take n)).length ≤ (forms xs).length := by
  have h : forms xs = forms (xs.take n) ++ forms (xs.drop n) := by unfold forms; rw [← List.flatMap_append, List.take_append_drop]
  rw [h, List.length_append]; omega
/-- What is laid of the lists so far. -/
structure LyI (B Bw gr gw : Nat) (v vw : Value) (R2 : Rr) (base : Nat) (pre : List UInt8) (xs : List SlR) (pl : Option Addr) (cl : Nat) (w0 : World) (ys : List SlR) (v1 : Value) (W1 : Wr) (w1 : World) : Prop where
  iw : IsW w1 Bw gw v1 W1
  tx : W1 = ⟨pre ++ (form xs.length ++ forms ys), 0⟩
  rd : RdN 1 cs w1 pl cl xs
  el : ∀ y ∈ xs, ElAt w1 base y
  ir : IsR w1 B gr v R2
  md : Mod (footB gw vw) w0 w1
  ow : ∀ x, v1.ownBlock = some x → vw.ownBlock = some x ∨ w0.heap.size ≤ x
theorem lay_pre {b x : List UInt8} (h : b.length + x.length ≤ 4194304) : (Wr.lay ⟨b, 0⟩ x) = ⟨b ++ x, 0⟩ := by
  unfold Wr.lay
  rw [if_neg (by simp), if_neg (by simp; omega)]
theorem lays_lists (B Bw gr gw : Nat) (v vw : Value) (R2 : Rr) (base : Nat) (pre : List UInt8) (xs : List SlR) (pl : Option Addr) (cl : Nat) (w : World) (hw : IsW w Bw gw vw ⟨pre, 0⟩) (hr : IsR w B gr v R2) (hgr : gr < Bw) (hvr : ∀ x, v.ownBlock = some x → x < Bw)
    (hfl : ∀ x ∈ footB gw vw, x < base) (hel : ∀ y ∈ xs, ElAt w base y) (hrd : RdN 1 cs w pl cl xs) (hpl : ∀ a, pl = some a → base ≤ a.block ∧ a.block < w.heap.size) (hlen : (pre ++ (form xs.length ++ forms xs)).length ≤ 4194304) :
    Calls Try.prog 79 #[.pointer (some ⟨gw, 0, none⟩), .slice pl xs.length cl, .func (.func 80) #[] #[]] w fun e w' => e = .returned (.tuple #[]) ∧ ∃ v1, IsW w' Bw gw v1 ⟨pre ++ (form xs.length ++ forms xs), 0⟩ ∧ IsR w' B gr v R2 ∧ Mod (footB gw vw) w w' ∧ ∀ x, v1.ownBlock = some x → vw.ownBlock = some x ∨ w.heap.size ≤ x := by
  have hxl := forms_len xs
  have hle : pre.length + ((form xs.length).length + (forms xs).length) ≤ 4194304 := by simpa using hlen
  have hin : ∀ y ∈ xs, ∀ a, y.p = some a → a.block < w.heap.size := fun y hy a ha => by obtain ⟨C, hC⟩ := ((hel y hy).2 a ha).2; exact lt_of_block hC
  have hnum : Wr.number ⟨pre, 0⟩ (xs.length : Int) = ⟨pre ++ form xs.length, 0⟩ := by
    unfold Wr.number
    rw [if_neg (by omega), Int.toNat_natCast, lay_pre (by omega)]
  have nin : ∀ (v1 : Value) (w1 : World) (W1 : Wr), IsW w1 Bw gw v1 W1 → (∀ x, v1.ownBlock = some x → vw.ownBlock = some x ∨ w.heap.size ≤ x) → ∀ b, base ≤ b → b < w.heap.size → b ∉ footB gw v1 := by
    intro v1 w1 W1 hi hv b h1 h2 hx
    rcases mem_footB.1 hx with h | h
    · have := hfl gw (mem_footB.2 (.inl rfl)); omega
    · rcases hv b h with h3 | h3
      · have := hfl b (mem_footB.2 (.inr h3)); omega
      · omega
  have step : ∀ (v1 v2 : Value) (W1 W2 : Wr) (w1 w2 : World) (ys zs : List SlR), LyI B Bw gr gw v vw R2 base pre xs pl cl w ys v1 W1 w1 → IsW w2 Bw gw v2 W2 → Mod (footB gw v1) w1 w2 → (∀ x, v2.ownBlock = some x → v1.ownBlock = some x ∨ w1.heap.size ≤ x) → W2 = ⟨pre ++ (form xs.length ++ forms zs), 0⟩ → LyI B Bw gr gw v vw R2 base pre xs pl cl w zs v2 W2 w2 := by
    intro v1 v2 W1 W2 w1 w2 ys zs hI hi hm hv hW
    have hn := nin v1 w1 W1 hI.iw hI.ow
    refine ⟨hi, hW, hI.rd.mod hm (fun _ a ha => hn _ (hpl a ha).1 (hpl a ha).2), fun y hy => (hI.el y hy).mod hm (fun a ha => hn _ ((hel y hy).2 a ha).1 (hin y hy a ha)), hI.ir.mod hm (fun hx => by have := hI.iw.foot_base _ hx; omega) (fun x hx hv2 => by have := hI.iw.foot_base _ hx; have := hvr _ hv2; omega), hI.md.trans hm (fun x hx => ?_), fun x hx => ?_⟩
    · rcases mem_footB.1 hx with h | h
      · exact .inl (mem_footB.2 (.inl h))
      · rcases hI.ow x h with h | h
        · exact .inl (mem_footB.2 (.inr h))
        · exact .inr h
    · rcases hv x hx with h | h
      · exact hI.ow x h
      · exact .inr (Nat.le_trans hI.md.size h)
  have base0 : LyI B Bw gr gw v vw R2 base pre xs pl cl w [] vw ⟨pre ++ (form xs.length ++ forms []), 0⟩ w → True := fun _ => trivial
  refine (laySl_any Bw gw vw ⟨pre, 0⟩ w hw (by show pre.length ≤ _; omega) pl cl xs (by omega) 80 #[] layBytesCall (LyI B Bw gr gw v vw R2 base pre xs pl cl w) ?_ ?_ ?_).mono ?_
  · intro v1 w1 hi hm hv
    rw [hnum] at hi ⊢
    have hn := nin vw w _ hw (fun x hx => .inl hx)
    refine ⟨hi, by simp [forms], hrd.mod hm (fun _ a ha => hn _ (hpl a ha).1 (hpl a ha).2), fun y hy => (hel y hy).mod hm (fun a ha => hn _ ((hel y hy).2 a ha).1 (hin y hy a ha)), hr.mod hm (fun hx => by have := hw.foot_base _ hx; omega) (fun x hx hv2 => by have := hw.foot_base _ hx; have := hvr _ hv2; omega), hm, hv⟩
  · intro ys v1 W1 w1 hI
    exact ⟨hI.iw, hI.rd⟩
  · intro n x v1 W1 w1 hx hI _
    have hmem : x ∈ xs := List.mem_of_getElem? hx
    have hsn : xs.take (n + 1) = xs.take n ++ [x] := by rw [List.take_add_one, hx]; rfl
    have hft := forms_take xs (n + 1)
    rw [hsn, forms_snoc, List.length_append, List.length_append] at hft
    have hb : W1.b.length + (form x.d.length ++ x.d).length ≤ 4194304 := by
      rw [hI.tx, List.length_append]
      simp only [List.length_append]
      omega
    have hl : Wr.lay W1 (form x.d.length ++ x.d) = ⟨pre ++ (form xs.length ++ forms (xs.take (n + 1))), 0⟩ := by
      have e : W1 = ⟨W1.b, 0⟩ := by rw [hI.tx]
      rw [e, lay_pre hb, hsn, forms_snoc, hI.tx]
      simp
    have hn := nin v1 w1 W1 hI.iw hI.ow
    refine (layBytes_any Bw gw v1 W1 w1 hI.iw (by omega) x.p x.cap x.d (hI.el x hmem).1 (by rw [List.length_append] at hb; omega) (fun _ a ha => hn _ ((hel x hmem).2 a ha).1 (hin x hmem a ha))).mono ?_
    rintro e w2 ⟨v2, rfl, i2, m2, o2⟩
    rw [hl] at i2
    exact ⟨rfl, v2, _, step v1 v2 W1 _ w1 w2 _ _ hI i2 m2 o2 rfl⟩
  · rintro e w' ⟨rfl, n, v1, W1, hn, hI, hx⟩
    have he : W1.e = 0 := by rw [hI.tx]
    rcases hx with hx | hx
    · have hi := hI.iw
      rw [hI.tx, hx, List.take_length] at hi
      exact ⟨rfl, v1, hi, hI.ir, hI.md, hI.ow⟩
    · exact absurd he hx
set_option maxRecDepth 100000 in
set_option maxHeartbeats 1000000 in
theorem copies_7 (B Bw gr gw : Nat) (v vw : Value) (R : Rr) (s : Sp) (w : World) (hr : IsR w B gr v R) (he : R.e = 0) (hw : IsW w Bw gw vw ⟨R.b.take R.at_, 0⟩) (hgr : gr < Bw) (hvr : ∀ x, v.ownBlock = some x → x < Bw) (k0 : -9223372036854775808 ≤ s.kind) (k1 : s.kind ≤ 9223372036854775807) (hk : pk s.kind 8 = 7) :
    Calls Try.prog 36 #[.pointer (some ⟨gr, 0, none⟩), .pointer (some ⟨gw, 0, none⟩), spv s] w (CopyP B Bw gr gw v vw R w) := by
  obtain ⟨cs, hcs⟩ : ∃ cs, cs = s.cells.toArray := ⟨_, rfl⟩
  have HPK := Lib.hid (fun w1 => pick_any s.kind 8 w1 k0 k1 (by decide) (by decide))
  rw [hk] at HPK
  have hc0 : cs[0]? = some (.int .i64 s.kind) := by rw [hcs]; simp [Sp.cells]
  have hc1 : cs[1]? = some (.int .i64 s.n) := by rw [hcs]; simp [Sp.cells]
  obtain ⟨W1, hW1⟩ : ∃ W, W = (w.alloc (.cells cs 48)).alloc (.cells (spz 7).cells.toArray 48) := ⟨_, rfl⟩
  have hba : W1.heap[w.heap.size]? = some (.cells s.cells.toArray 48 (0, 0)) := by rw [hW1, hcs]; exact hp_old (hp_new w _ _ rfl)
  have hbz : W1.heap[w.heap.size + 1]? = some (.cells (spz 7).cells.toArray 48 (0, 0)) := by rw [hW1]; exact hp_new _ _ _ (by simp)
  have hm1 : Mod [] w W1 := by rw [hW1]; exact ((Mod.refl [] w).alloc _).alloc _
  have hgl := hr.lt
  have hvl := hr.own_lt
  have hfl := hw.foot_lt
  have hfb := hw.foot_base
  have hgwb := hw.base
  have HI1 := Lib.hid (hr.mod0 hm1)
  have HWI1 := Lib.hid (hw.mod0 hm1)
  have HR0 := Lib.hid hr
  have HA1 := Lib.hid hba
  have HZ1 := Lib.hid hbz
  have HM1 := Lib.hid hm1
  have HW1 := Lib.hid hW1
  have HE := Lib.hid he
  have cn1 := (box_sp hba).fn
  have HVR := Lib.hid hvr
  unfold spv
  rw [← hcs]
  clear hr hw hba hbz hm1 hW1 he hk hcs hvr
  go_enter Try.func36, Try.ntmps36
  go_wp2_with fail
  refine (HPK.out _).mono ?_
  rintro e w0 ⟨rfl, rfl⟩
  go_wp2_with fail
  refine Eq.mpr (congrArg (fun W => Calls _ _ _ W _) (show _ = W1 by rw [HW1.out]; rfl)) ?_
  refine (takes_any B gr v R W1 HI1.out HE.out s.n).mono ?_
  rintro e w2 ⟨r2, xs, R2, rfl, hI, m2, hcase⟩
  have hb2 := m2.get HZ1.out (by simp; omega)
  have ck : w2.cell? ⟨w.heap.size + 1, 0, none⟩ = some (.int .i64 7) := (box_sp hb2).fk
  have HEA := Lib.hid (err_any B gr v R2 w2 hI.ir)
  have HII := Lib.hid hI
  have WI2 := Lib.hid (HWI1.out.mod m2 (by simp; omega) (fun y hy hv => by rw [List.mem_singleton] at hy; subst hy; have := hfb _ (mem_footB.2 (.inr hv)); omega))
  have M02 := Lib.hid ((HM1.out.mono (S' := gr :: footB gw vw) (by simp)).trans m2 (fun y hy => .inl (by simp at hy; simp [hy])))
  have hsz1 : w.heap.size ≤ W1.heap.size := HM1.out.size
  have hsz2 : W1.heap.size ≤ w2.heap.size := m2.size
  clear hI m2 hb2 cn1 hc0 hc1
  rcases hcase with ⟨h2, ho⟩ | ⟨h2, rfl⟩
  · obtain ⟨pl, cl, hr2, hrd, hbl, _⟩ := ho.rd
    have hlt := ho.lt
    have hpl : ∀ a, pl = some a → W1.heap.size ≤ a.block ∧ a.block < w2.heap.size := fun a ha => ⟨(hbl a ha).1, hlt _ (hbl a ha).2⟩
    subst hr2
    have hlen : (R.b.take R.at_ ++ (form xs.length ++ forms xs)).length ≤ 4194304 := by
      rw [← HII.out.tx h2]
      have := HR0.out.len
      simp; omega
    have hLY := lays_lists B Bw gr gw v vw R2 W1.heap.size (R.b.take R.at_) xs pl cl w2 WI2.out HII.out.ir hgr HVR.out (fun x hx => by have := hfl x hx; omega) HII.out.el hrd hpl hlen
    rw [← HII.out.tx h2] at hLY
    have HLY := Lib.hid hLY
    have d2 : (R2.e != 0) = false := by simp [h2]
    have H2 := Lib.hid h2
    clear ho hrd hbl hlt hpl hlen hLY h2
    go_wp2_with fail
    refine HEA.out.mono ?_
    rintro e w4 ⟨rfl, hw4⟩
    subst hw4
    go_wp2_with fail
    refine HLY.out.mono ?_
    rintro e w9 ⟨rfl, v9, i9, ir9, m9, o9⟩
    have I9 := Lib.hid i9
    have IR9 := Lib.hid ir9
    have M9 := Lib.hid m9
    have O9 := Lib.hid o9
    clear i9 ir9 m9 o9 HLY
    go_wp2_with fail
    go_end0
    refine ⟨v9, R2, rfl, IR9.out, HII.out.b, HII.out.on, M02.out.trans M9.out (fun y hy => .inl (by simp [hy])), .inl ⟨H2.out, I9.out⟩, fun y hy => ?_⟩
    rcases O9.out y hy with h | h
    · exact .inl h
    · exact .inr (by omega)
  · have d2 : (R2.e != 0) = true := by simpa using h2
    go_wp2_with fail
    refine HEA.out.mono ?_
    rintro e w4 ⟨rfl, hw4⟩
    subst hw4
    go_wp2_with fail
    refine bodyPost_ret (results_none rfl _ _ _) rfl ?_
    exact ⟨vw, R2, rfl, HII.out.ir, HII.out.b, HII.out.on, M02.out, .inr ⟨h2, WI2.out⟩, fun y hy => .inl hy⟩
theorem copies_any (B Bw gr gw : Nat) (v vw : Value) (R : Rr) (s : Sp) (w : World) (hr : IsR w B gr v R) (he : R.e = 0) (hw : IsW w Bw gw vw ⟨R.b.take R.at_, 0⟩) (hgr : gr < Bw) (hvr : ∀ x, v.ownBlock = some x → x < Bw) (k0 : -9223372036854775808 ≤ s.kind) (k1 : s.kind ≤ 9223372036854775807) :
    Calls Try.prog 36 #[.pointer (some ⟨gr, 0, none⟩), .pointer (some ⟨gw, 0, none⟩), spv s] w (CopyP B Bw gr gw v vw R w) := by
  have hk : pk s.kind 8 < 8 := by have := pk_lt s.kind 8 (by decide); omega
  rcases (by omega : pk s.kind 8 = 0 ∨ pk s.kind 8 = 1 ∨ pk s.kind 8 = 2 ∨ pk s.kind 8 = 3 ∨ pk s.kind 8 = 4 ∨ pk s.kind 8 = 5 ∨ pk s.kind 8 = 6 ∨ pk s.kind 8 = 7) with h | h | h | h | h | h | h | h
  · exact copies_0 B Bw gr gw v vw R s w hr he hw hgr hvr k0 k1 h
  · exact copies_1 B Bw gr gw v vw R s w hr he hw hgr hvr k0 k1 h
  · exact copies_2 B Bw gr gw v vw R s w hr he hw hgr hvr k0 k1 h
  · exact copies_3 B Bw gr gw v vw R s w hr he hw hgr hvr k0 k1 h
  · exact copies_4 B Bw gr gw v vw R s w hr he hw hgr hvr k0 k1 h
  · exact copies_5 B Bw gr gw v vw R s w hr he hw hgr hvr k0 k1 h
  · exact copies_6 B Bw gr gw v vw R s w hr he hw hgr hvr k0 k1 h
  · exact copies_7 B Bw gr gw v vw R s w hr he hw hgr hvr k0 k1 h
end Go.Proofs.Ytnmcbdppbpfegaa
