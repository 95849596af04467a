/- form, size of wire's laws; two wide numbers held together. Condition: what is laid is of at most 2^22 bytes. -/
import Derived.Test.YtnmcbdppbpfegaaWpLays
import Derived.Stop.BytesEq
namespace Go.Proofs.Ytnmcbdppbpfegaa
open Go.RowKit
attribute [local go_sem high] one8 st8 cm8 b_and8 b_and8r b_and8l b_or8 b_or8r b_or8l b_xor8 b_xor8r b_xor8l b_andNot8 b_andNot8r b_andNot8l b_add8 b_add8r b_add8l b_sub8 b_sub8r b_sub8l b_mul8 b_mul8r b_mul8l b_eql8 b_eql8r b_eql8l b_neq8 b_neq8r b_neq8l b_lss8 b_lss8r b_lss8l b_leq8 b_leq8r b_leq8l b_gtr8 b_gtr8r b_gtr8l b_geq8 b_geq8r b_geq8l b_quo8r b_rem8r b_shl8r b_shr8r b_shl8l b_shr8l u_xor8 g_eql8 g_neq8 g_eql8' g_neq8' one32 st32 cm32 b_and32 b_and32r b_and32l b_or32 b_or32r b_or32l b_xor32 b_xor32r b_xor32l b_andNot32 b_andNot32r b_andNot32l b_add32 b_add32r b_add32l b_sub32 b_sub32r b_sub32l b_mul32 b_mul32r b_mul32l b_eql32 b_eql32r b_eql32l b_neq32 b_neq32r b_neq32l b_lss32 b_lss32r b_lss32l b_leq32 b_leq32r b_leq32l b_gtr32 b_gtr32r b_gtr32l b_geq32 b_geq32r b_geq32l b_quo32r b_rem32r b_shl32r b_shr32r b_shl32l b_shr32l u_xor32 g_eql32 g_neq32 g_eql32' g_neq32' one64 st64 cm64 b_and64 b_and64r b_and64l b_or64 b_or64r b_or64l b_xor64 b_xor64r b_xor64l b_andNot64 b_andNot64r b_andNot64l b_add64 b_add64r b_add64l b_sub64 b_sub64r b_sub64l b_mul64 b_mul64r b_mul64l b_eql64 b_eql64r b_eql64l b_neq64 b_neq64r b_neq64l b_lss64 b_lss64r b_lss64l b_leq64 b_leq64r b_leq64l b_gtr64 b_gtr64r b_gtr64l b_geq64 b_geq64r b_geq64l b_quo64r b_rem64r b_shl64r b_shr64r b_shl64l b_shr64l u_xor64 g_eql64 g_neq64 g_eql64' g_neq64' c_u8_u8 c_u8_u32 c_u8_u64 c_i_u8 c_u32_u8 c_u32_u32 c_u32_u64 c_i_u32 c_u64_u8 c_u64_u32 c_u64_u64 c_i_u64 c_u8_i c_u32_i
attribute [local go_sem ↓] ce8 ce32 ce64
attribute [local go_sem ↓] sliced_slp loadODg storeODg loadOAd storeOAd loadOWd storeOWd loadOSt storeOSt
set_option maxRecDepth 100000 in
theorem size_any (s : Sp) (w : World) (h1 : s.b.length ≤ 549755813888) (h2 : s.l.length ≤ 549755813888) :
    Calls Try.prog 24 #[spv s] w fun e w' => e = .returned (.int .i64 (64 + 4 * (s.b.length : Int) + 10 * (s.l.length : Int))) ∧ Mod [] w w' := by
  have hbx := box_sp (hp_new w (.cells s.cells.toArray 48) _ rfl)
  have kb := hbx.fb
  have kl := hbx.fl
  have HM := Lib.hid ((Mod.refl [] w).alloc (.cells s.cells.toArray 48))
  unfold spv
  obtain ⟨cs, hcs⟩ : ∃ cs, cs = s.cells.toArray := ⟨_, rfl⟩
  rw [← hcs] at kb kl HM ⊢
  clear hbx hcs
  go_enter Try.func24, Try.ntmps24
  go_wp2_with fail
  go_ret
  exact ⟨rfl, HM.out⟩
set_option maxRecDepth 100000 in
theorem form03_any (s : Sp) (w : World) (hs : SpOk w w.heap.size s) (k : Nat) (hk7 : k < 7) (hkd : s.kind = (k : Int)) (hl : (s.form k).length ≤ 4194304) :
    Calls Try.prog 25 #[spv s] w (CloneB w (s.form k)) := by
  have hm := (Mod.refl [] w).alloc (.cells s.cells.toArray 48)
  have HB := Lib.hid (hp_new w (.cells s.cells.toArray 48) _ rfl)
  have HN := Lib.hid (newW_any (w.heap.size + 1) (w.alloc (.cells s.cells.toArray 48)) (by simp))
  have HM := Lib.hid hm
  have HS := Lib.hid (show SpOk w (w.heap.size + 1) s from ⟨hs.n0, hs.n1, hs.rd, fun hne x hx => Nat.lt_succ_of_lt (hs.lt hne x hx), hs.len⟩)
  have HKD := Lib.hid hkd
  have HBX := Lib.hid (fun (w1 : World) (h1 : w1.heap[w.heap.size]? = some (.cells s.cells.toArray 48 (0, 0))) => (box_sp h1).fa)
  obtain ⟨sv, hsv⟩ : ∃ sv, sv = spv s := ⟨_, rfl⟩
  unfold spv at hsv ⊢
  obtain ⟨cs, hcs⟩ : ∃ cs, cs = s.cells.toArray := ⟨_, rfl⟩
  rw [← hcs] at HB HN HM HBX ⊢
  clear hm hs hkd hcs hsv
  unfold CloneB
  go_enter Try.func25, Try.ntmps25
  go_wp2_with fail
  refine HN.out.mono ?_
  rintro e w1 ⟨g, rfl, hg, hi1, m1⟩
  have ha := HBX.out w1 (m1.get0 HB.out)
  have hL := lays_any (w.heap.size + 1) g _ ⟨[], 0⟩ w1 hi1 (by simp) s (HS.out.mod0 (HM.out.trans0 m1)) k hk7 HKD.out
  have hlay : (Wr.lay ⟨[], 0⟩ (s.form k)) = ⟨s.form k, 0⟩ := by
    unfold Wr.lay
    rw [if_neg (by simp), if_neg (by simp; omega)]
    simp
  rw [hlay] at hL
  have HL := Lib.hid hL
  have hb1 := hi1.foot_base
  have HM1 := Lib.hid (HM.out.trans0 m1)
  clear hi1 m1 hL hlay HN HM
  go_wp2_with fail
  refine HL.out.mono ?_
  rintro e w2 ⟨v2, rfl, hi2, m2, _⟩
  have HM2 := Lib.hid (HM1.out.trans m2 (fun x hx => .inr (by have := hb1 x hx; omega)))
  have HD := Lib.hid (done_yes (w.heap.size + 1) g v2 _ w2 hi2 hl rfl)
  clear hi2 m2 ha HL
  go_wp2_with fail
  refine HD.out.mono ?_
  rintro e w3 ⟨r, rfl, ho, m3⟩
  have HO := Lib.hid (ho.mono HM2.out.size)
  have HM3 := Lib.hid (HM2.out.trans0 m3)
  clear ho m3 HD
  go_wp2_with fail
  go_ret
  exact ⟨r, rfl, HO.out, HM3.out⟩
theorem all_range_eq64 : ∀ (xs ys : List UInt64), xs.length = ys.length → ((List.range xs.length).all fun i => xs.getD i 0 == ys.getD i 0) = (xs == ys)
  | [], [], _ => rfl
  | x :: xs, y :: ys, h => by
    have ih := all_range_eq64 xs ys (by simpa using h)
    rw [List.length_cons, List.range_succ_eq_map, List.all_cons, List.all_map]
    simp only [List.getD_cons_zero, Function.comp_def, List.getD_cons_succ, ih]
    simp [List.cons_beq_cons]
  | [], _ :: _, h => by simp at h
  | _ :: _, [], h => by simp at h
theorem run_equalIn_u64 {P : Program} (w : World) (d : Nat) (t e : TypeId) (n : Nat) (ht : P.underlying t = some (.array n e)) (he : P.underlying e = some (.int .u64)) (hsz : ∀ w, (sizeOf e).run P w = .ok 1 w)
    (xs ys : List UInt64) (hx : xs.length = n) (hy : ys.length = n) :
    (Op.equalIn (d + 2) t (.agg (xs.map V64).toArray) (.agg (ys.map V64).toArray)).run P w = .ok (xs == ys) w := by
  rw [← all_range_eq64 xs ys (hx.trans hy.symm), hx, List.range_eq_range', Op.equalIn]
  simp only [Sem.run_bind, run_underlying ht, Result.andThen_ok, hsz, Std.Legacy.Range.forIn_eq_forIn_range', Std.Legacy.Range.size, Nat.sub_zero, Nat.add_sub_cancel, Nat.div_one]
  have hl : ∀ i ∈ List.range' 0 n 1, i < n := fun i hi => by simpa using (List.mem_range'_1.1 hi).2
  generalize List.range' 0 n 1 = l at hl ⊢
  induction l with
  | nil => simp
  | cons i l ih =>
    have hi : i < n := hl i (by simp)
    have px : (part e (xs.map V64).toArray (i * 1)).run P w = .ok (V64 (xs.getD i 0)) w := by
      simp [part, isAgg, run_underlying he, List.getD, List.getElem?_eq_getElem (show i < xs.length by omega)]
    have py : (part e (ys.map V64).toArray (i * 1)).run P w = .ok (V64 (ys.getD i 0)) w := by
      simp [part, isAgg, run_underlying he, List.getD, List.getElem?_eq_getElem (show i < ys.length by omega)]
    have pe : (Op.equalIn (d + 1) e (V64 (xs.getD i 0)) (V64 (ys.getD i 0))).run P w = .ok (xs.getD i 0 == ys.getD i 0) w := by
      rw [V64, V64, run_equalIn_int w d e .u64 .u64 _ _ he]
      congr 1
      rw [Bool.eq_iff_iff]
      simp [← UInt64.toNat_inj]
      omega
    simp only [List.forIn_cons, Sem.run_bind, px, py, pe, Result.andThen_ok, List.all_cons]
    cases hb : (xs.getD i 0 == ys.getD i 0)
    · simp
    · simp only [Bool.not_true, Bool.false_eq_true, if_false, Sem.run_pure, Result.andThen_ok, Bool.true_and]
      exact ih fun j hj => hl j (by simp [hj])
theorem neqWide (w : World) (a b : {l : List UInt64 // l.length = 4}) : (binOp .neq 46 (.agg (a.1.map V64).toArray) (.agg (b.1.map V64).toArray)).run Try.prog w = .ok (.bool (!(a.1 == b.1))) w := by
  have h := run_equalIn_u64 (P := Try.prog) w 9998 46 44 4 Try.underlying46 Try.underlying44 Try.sizeOf44 a.1 b.1 a.2 b.2
  rw [run_neq_struct, h]; rfl
theorem neqDg (w : World) (a b : List UInt8) (ha : a.length = 32) (hb : b.length = 32) : (binOp .neq 88 (.agg (a.map V8).toArray) (.agg (b.map V8).toArray)).run Try.prog w = .ok (.bool (!(a == b))) w := by
  have h := run_equalIn_bytes (P := Try.prog) w 9998 88 5 32 Try.underlying88 Try.underlying5 Try.sizeOf5 a b ha hb
  change (Op.equalIn _ _ (.agg (a.map V8).toArray) (.agg (b.map V8).toArray)).run _ _ = _ at h
  rw [run_neq_struct, h]; rfl
theorem neqAd (w : World) (a b : List UInt8) (ha : a.length = 20) (hb : b.length = 20) : (binOp .neq 92 (.agg (a.map V8).toArray) (.agg (b.map V8).toArray)).run Try.prog w = .ok (.bool (!(a == b))) w := by
  have h := run_equalIn_bytes (P := Try.prog) w 9998 92 5 20 Try.underlying92 Try.underlying5 Try.sizeOf5 a b ha hb
  change (Op.equalIn _ _ (.agg (a.map V8).toArray) (.agg (b.map V8).toArray)).run _ _ = _ at h
  rw [run_neq_struct, h]; rfl
end Go.Proofs.Ytnmcbdppbpfegaa
