/- refused, own of wire's laws: whatever a broken reader is asked for, it gives nothing. Condition: at most 2^22 bytes. -/
import Derived.Test.YtnmcbdppbpfegaaRsSkip
import Derived.Test.YtnmcbdppbpfegaaRrList
namespace Go.Proofs.Ytnmcbdppbpfegaa
open Go.RowKit
attribute [local go_sem high] one8 st8 cm8 b_and8 b_and8r b_and8l b_or8 b_or8r b_or8l b_xor8 b_xor8r b_xor8l b_andNot8 b_andNot8r b_andNot8l b_add8 b_add8r b_add8l b_sub8 b_sub8r b_sub8l b_mul8 b_mul8r b_mul8l b_eql8 b_eql8r b_eql8l b_neq8 b_neq8r b_neq8l b_lss8 b_lss8r b_lss8l b_leq8 b_leq8r b_leq8l b_gtr8 b_gtr8r b_gtr8l b_geq8 b_geq8r b_geq8l b_quo8r b_rem8r b_shl8r b_shr8r b_shl8l b_shr8l u_xor8 g_eql8 g_neq8 g_eql8' g_neq8' one32 st32 cm32 b_and32 b_and32r b_and32l b_or32 b_or32r b_or32l b_xor32 b_xor32r b_xor32l b_andNot32 b_andNot32r b_andNot32l b_add32 b_add32r b_add32l b_sub32 b_sub32r b_sub32l b_mul32 b_mul32r b_mul32l b_eql32 b_eql32r b_eql32l b_neq32 b_neq32r b_neq32l b_lss32 b_lss32r b_lss32l b_leq32 b_leq32r b_leq32l b_gtr32 b_gtr32r b_gtr32l b_geq32 b_geq32r b_geq32l b_quo32r b_rem32r b_shl32r b_shr32r b_shl32l b_shr32l u_xor32 g_eql32 g_neq32 g_eql32' g_neq32' one64 st64 cm64 b_and64 b_and64r b_and64l b_or64 b_or64r b_or64l b_xor64 b_xor64r b_xor64l b_andNot64 b_andNot64r b_andNot64l b_add64 b_add64r b_add64l b_sub64 b_sub64r b_sub64l b_mul64 b_mul64r b_mul64l b_eql64 b_eql64r b_eql64l b_neq64 b_neq64r b_neq64l b_lss64 b_lss64r b_lss64l b_leq64 b_leq64r b_leq64l b_gtr64 b_gtr64r b_gtr64l b_geq64 b_geq64r b_geq64l b_quo64r b_rem64r b_shl64r b_shr64r b_shl64l b_shr64l u_xor64 g_eql64 g_neq64 g_eql64' g_neq64' c_u8_u8 c_u8_u32 c_u8_u64 c_i_u8 c_u32_u8 c_u32_u32 c_u32_u64 c_i_u32 c_u64_u8 c_u64_u32 c_u64_u64 c_i_u64 c_u8_i c_u32_i
attribute [local go_sem ↓] ce8 ce32 ce64
attribute [local go_sem ↓] sliced_slp loadODg storeODg loadOAd storeOAd loadOWd storeOWd loadOSt storeOSt
theorem eqWide (w : World) (a b : {l : List UInt64 // l.length = 4}) : (binOp .eql 46 (.agg (a.1.map V64).toArray) (.agg (b.1.map V64).toArray)).run Try.prog w = .ok (.bool (a.1 == b.1)) w := by
  have h := run_equalIn_u64 (P := Try.prog) w 9998 46 44 4 Try.underlying46 Try.underlying44 Try.sizeOf44 a.1 b.1 a.2 b.2
  rw [run_eql_struct, h]; rfl
theorem eqDg (w : World) (a b : List UInt8) (ha : a.length = 32) (hb : b.length = 32) : (binOp .eql 88 (.agg (a.map V8).toArray) (.agg (b.map V8).toArray)).run Try.prog w = .ok (.bool (a == b)) w := by
  have h := run_equalIn_bytes (P := Try.prog) w 9998 88 5 32 Try.underlying88 Try.underlying5 Try.sizeOf5 a b ha hb
  change (Op.equalIn _ _ (.agg (a.map V8).toArray) (.agg (b.map V8).toArray)).run _ _ = _ at h
  rw [run_eql_struct, h]; rfl
theorem eqAd (w : World) (a b : List UInt8) (ha : a.length = 20) (hb : b.length = 20) : (binOp .eql 92 (.agg (a.map V8).toArray) (.agg (b.map V8).toArray)).run Try.prog w = .ok (.bool (a == b)) w := by
  have h := run_equalIn_bytes (P := Try.prog) w 9998 92 5 20 Try.underlying92 Try.underlying5 Try.sizeOf5 a b ha hb
  change (Op.equalIn _ _ (.agg (a.map V8).toArray) (.agg (b.map V8).toArray)).run _ _ = _ at h
  rw [run_eql_struct, h]; rfl
/-- A type whose rows are read as one. -/
def IsLong (t : TypeId) : Prop := t = 92
theorem loadO_if (t : TypeId) (p : Value) (_ : IsLong t) : Instr.loadAt t p = LoadO t p := rfl
attribute [local go_sem ↓] loadO_if
def zw : {l : List UInt64 // l.length = 4} := ⟨[0, 0, 0, 0], rfl⟩
theorem eqWide0 (zs : Array Value) (h : zs = (zw.1.map V64).toArray) (w : World) : (binOp .eql 46 (.agg zs) (.agg zs)).run Try.prog w = .ok (.bool true) w := by
  rw [h, eqWide]; simp
theorem eqDg0 (zs : Array Value) (h : zs = ((zeros 32).map V8).toArray) (w : World) : (binOp .eql 88 (.agg zs) (.agg zs)).run Try.prog w = .ok (.bool true) w := by
  rw [h, eqDg w _ _ (zeros_length 32) (zeros_length 32)]; simp
theorem eqAd0 (zs : Array Value) (h : zs = ((zeros 20).map V8).toArray) (w : World) : (binOp .eql 92 (.agg zs) (.agg zs)).run Try.prog w = .ok (.bool true) w := by
  rw [h, eqAd w _ _ (zeros_length 20) (zeros_length 20)]; simp
theorem takeNumCall (xs : Array Value) (w : World) : (callFunc 74 xs).run Try.prog w = .ok (.enter 74 xs) w := by kernel_rfl
theorem num_skip (B g : Nat) (v : Value) (R : Rr) (w : World) (h : IsR w B g v R) (he : R.e ≠ 0) :
    Calls Try.prog 13 #[.pointer (some ⟨g, 0, none⟩)] w fun e w' => e = .returned (.int .i64 0) ∧ IsR w' B g v R ∧ Mod [g] w w' := by
  have hn : R.num = (R, 0) := by unfold Rr.num; rw [if_pos he]
  have h1 := rNumber_any B g v R w h
  rw [hn] at h1
  exact h1
/-- A list of numbers off a broken reader. -/
theorem listInt_skip (B g : Nat) (v : Value) (R : Rr) (w : World) (h : IsR w B g v R) (he : R.e ≠ 0) (m : Int) :
    Calls Try.prog 15 #[.pointer (some ⟨g, 0, none⟩), .int .i64 m, .func (.func 74) #[] #[]] w fun e w' => e = .returned (.slice none 0 0) ∧ IsR w' B g v R ∧ Mod [g] w w' := by
  have hc : R.count m = (R, 0) := by unfold Rr.count; rw [if_pos he]
  refine (listInt_any B g v R w h m 74 #[] takeNumCall [] (by simp) (fun _ R1 w1 => IsR w1 B g v R1 ∧ R1 = R) ?_ ?_ ?_ ?_).mono ?_
  · intro w1 hi _; rw [hc] at hi ⊢; exact ⟨hi, rfl⟩
  · intro _ _ _ h; exact h.1
  · intro xs R1 w1 w2 T hI hm hT
    obtain ⟨hi, rfl⟩ := hI
    exact ⟨hi.mod hm (fun hx => by have := hT _ hx; have := h.lt; omega) (fun x hx hv => by have := hT _ hx; have := h.own_lt _ hv; omega), rfl⟩
  · intro xs R1 w1 hI h0 hl
    rw [hc] at hl
    exact absurd hl (Nat.not_lt_zero _)
  · rintro e w' ⟨r, xs, R', rfl, ⟨hi, rfl⟩, hm, _, hx⟩
    rcases hx with ⟨h0, _⟩ | ⟨_, rfl⟩
    · exact absurd h0 he
    · exact ⟨rfl, hi, hm⟩
set_option maxRecDepth 100000 in
set_option maxHeartbeats 1000000 in
theorem refused_any (B g : Nat) (v : Value) (l : List UInt8) (er : Int) (w : World) (h : IsR w B g v ⟨l, 0, er⟩) (he : er ≠ 0) (s : Sp) :
    Calls Try.prog 30 #[.pointer (some ⟨g, 0, none⟩), spv s] w fun e w' => e = .returned (.bool true) ∧ IsR w' B g v ⟨l, 0, er⟩ ∧ Mod [g] w w' := by
  obtain ⟨R, hR⟩ : ∃ R : Rr, R = ⟨l, 0, er⟩ := ⟨_, rfl⟩
  rw [← hR] at h ⊢
  have hRe : R.e = er := by rw [hR]
  have hRa : R.at_ = 0 := by rw [hR]
  have heR : R.e ≠ 0 := by rw [hRe]; exact he
  obtain ⟨z4, hz4⟩ : ∃ z, z = (zw.1.map V64).toArray := ⟨_, rfl⟩
  obtain ⟨z32, hz32⟩ : ∃ z, z = (zeros 32).map V8 := ⟨_, rfl⟩
  obtain ⟨z20, hz20⟩ : ∃ z, z = (zeros 20).map V8 := ⟨_, rfl⟩
  have q4 := eqWide0 z4 hz4
  have q32 := eqDg0 z32.toArray (by rw [hz32])
  have q20 := eqAd0 z20.toArray (by rw [hz20])
  have g4 := fun (w : World) (op : BinOp) (x y : Operand) (p q : Array Value) => run_eqGuard_agg (P := Try.prog) w op 46 x y p q Try.eqGuardType46
  have g32 := fun (w : World) (op : BinOp) (x y : Operand) (p q : Array Value) => run_eqGuard_agg (P := Try.prog) w op 88 x y p q Try.eqGuardType88
  have g20 := fun (w : World) (op : BinOp) (x y : Operand) (p q : Array Value) => run_eqGuard_agg (P := Try.prog) w op 92 x y p q Try.eqGuardType92
  have s4 : z4.size = 4 := by rw [hz4]; rfl
  have s32 : z32.length = 32 := by rw [hz32]; simp [zeros_length]
  have u32 := Try.underlying88
  have u20 := Try.underlying92
  have s20 : z20.length = 20 := by rw [hz20]; simp [zeros_length]
  have i32 : (Try.prog.info? 88).map (·.size) = some z32.length := by rw [s32]; exact info32
  have i20 : (Try.prog.info? 92).map (·.size) = some z20.length := by rw [s20]; exact info20
  obtain ⟨cs, hcs⟩ : ∃ cs, cs = s.cells.toArray := ⟨_, rfl⟩
  obtain ⟨W, hW⟩ : ∃ W, W = (((w.alloc (.cells cs 48)).alloc (.cells z4 46)).alloc (.cells z32.toArray 88)).alloc (.cells z20.toArray 92) := ⟨_, rfl⟩
  have hm : Mod [] w W := by rw [hW]; exact ((((Mod.refl [] w).alloc _).alloc _).alloc _).alloc _
  have hb0 : W.heap[w.heap.size]? = some (.cells s.cells.toArray 48 (0, 0)) := by rw [hW, ← hcs]; exact hp_old (hp_old (hp_old (hp_new w _ _ rfl)))
  have hb1 : W.heap[w.heap.size + 1]? = some (.cells z4 46 (0, 0)) := by rw [hW]; exact hp_old (hp_old (hp_new _ _ _ (by simp)))
  have hb2 : W.heap[w.heap.size + 2]? = some (.cells z32.toArray 88 (0, 0)) := by rw [hW]; exact hp_old (hp_new _ _ _ (by simp))
  have hb3 : W.heap[w.heap.size + 3]? = some (.cells z20.toArray 92 (0, 0)) := by rw [hW]; exact hp_new _ _ _ (by simp)
  have hi := h.mod0 hm
  have hgl := h.lt
  have ng : ∀ k, w.heap.size + k ∉ [g] := fun k hk => by rw [List.mem_singleton] at hk; omega
  have HF := Lib.hid (fun (w1 : World) (h1 : Mod [g] W w1) => (show w1.cell? ⟨w.heap.size, 1, none⟩ = some (.int .i64 s.n) from (box_sp (h1.get hb0 (ng 0))).fn))
  have H4 := Lib.hid (fun (w1 : World) (h1 : Mod [g] W w1) => (loadO_row (P := Try.prog) (ty := 46) (h1.get hb1 (ng 1)) Try.underlying46 rfl (by rw [s4]; exact infoWd)))
  have H32 := Lib.hid (fun (w1 : World) (h1 : Mod [g] W w1) => (show w1.rangeAt (w.heap.size + 1 + 1) 0 z32 from range_blk (h1.get hb2 (ng 2)) 0 _ (fun j v hv => by simpa using hv)))
  have H20 := Lib.hid (fun (w1 : World) (h1 : Mod [g] W w1) => (show w1.rangeAt (w.heap.size + 1 + 1 + 1) 0 z20 from range_blk (h1.get hb3 (ng 3)) 0 _ (fun j v hv => by simpa using hv)))
  have HWD := Lib.hid (fun (w1 : World) (h1 : IsR w1 B g v R) => (show Calls Try.prog 71 #[.pointer (some ⟨g, 0, none⟩)] w1 (fun e w' => e = .returned (.agg z4) ∧ Mod [] w1 w') by rw [hz4]; exact rWide_skip B g v R w1 h1 heR))
  have HDG := Lib.hid (fun (w1 : World) (h1 : IsR w1 B g v R) => (show Calls Try.prog 72 #[.pointer (some ⟨g, 0, none⟩)] w1 (fun e w' => e = .returned (.agg z32.toArray) ∧ Mod [] w1 w') by rw [hz32]; exact rDigest_skip B g v R w1 h1 heR))
  have HAD := Lib.hid (fun (w1 : World) (h1 : IsR w1 B g v R) => (show Calls Try.prog 73 #[.pointer (some ⟨g, 0, none⟩)] w1 (fun e w' => e = .returned (.agg z20.toArray) ∧ Mod [] w1 w') by rw [hz20]; exact rAddress_skip B g v R w1 h1 heR))
  have HI := Lib.hid hi
  have HM := Lib.hid hm
  have HW := Lib.hid hW
  have HZ4 := Lib.hid hz4
  have HZ32 := Lib.hid hz32
  have HZ20 := Lib.hid hz20
  have HRE := Lib.hid hRe
  have HRA := Lib.hid hRa
  have HER := Lib.hid heR
  unfold spv
  rw [← hcs]
  clear h hR hRe hRa heR hz4 hz32 hz20 s4 s32 s20 hcs hm hb0 hb1 hb2 hb3 hi ng hW
  go_enter Try.func30, Try.ntmps30
  go_wp2_with fail
  refine Eq.mpr (congrArg (fun W => Calls _ _ _ W _) (show _ = W by rw [HW.out, HZ4.out, HZ32.out, HZ20.out]; rfl)) ?_
  refine (err_any B g v R W HI.out).mono ?_
  rintro e w1 ⟨rfl, rfl⟩
  rw [HRE.out]
  have d0 := (Mod.refl [g] w1).drew
  have i0 := HI.out.mod0 (Mod.refl [] w1).drew
  go_wp2_with fail
  go_region_held3 (fun w' => w'.cell? ⟨w.heap.size, 1, none⟩ = some (.int .i64 s.n) ∧ (LoadO 46 (.pointer (some ⟨w.heap.size + 1, 0, none⟩))).run Try.prog w' = .ok (.agg z4) w' ∧ w'.rangeAt (w.heap.size + 1 + 1) 0 z32 ∧ w'.rangeAt (w.heap.size + 1 + 1 + 1) 0 z20 ∧ IsR w' B g v R ∧ Mod [g] w1 w')
    (first
      | exact ⟨HF.out _ d0, H4.out _ d0, H32.out _ d0, H20.out _ d0, i0, d0⟩
      | exact ⟨by assumption, by assumption, by assumption, by assumption, by assumption, by assumption⟩)
    (first
      | (go_at_call 68
         refine (rByte_skip B g v R _ (by assumption) HER.out).mono ?_
         rintro e w6 ⟨rfl, m6⟩
         have i7 := IsR.mod0 (by assumption) m6
         have m7 : Mod [g] w1 w6 := Mod.trans0 (by assumption) m6
         have c7 := HF.out _ m7
         have c4 := H4.out _ m7
         have c32 := H32.out _ m7
         have c20 := H20.out _ m7
         clear m6)
      | (go_at_call 69
         refine (rFlag_skip B g v R _ (by assumption) HER.out).mono ?_
         rintro e w6 ⟨rfl, m6⟩
         have i7 := IsR.mod0 (by assumption) m6
         have m7 : Mod [g] w1 w6 := Mod.trans0 (by assumption) m6
         have c7 := HF.out _ m7
         have c4 := H4.out _ m7
         have c32 := H32.out _ m7
         have c20 := H20.out _ m7
         clear m6)
      | (go_at_call 13
         refine (num_skip B g v R _ (by assumption) HER.out).mono ?_
         rintro e w6 ⟨rfl, i7, m6⟩
         have m7 : Mod [g] w1 w6 := Mod.trans (by assumption) m6 (fun x hx => .inl hx)
         have c7 := HF.out _ m7
         have c4 := H4.out _ m7
         have c32 := H32.out _ m7
         have c20 := H20.out _ m7
         clear m6)
      | (go_at_call 70
         refine (rBytes_skip B g v R _ (by assumption) HER.out s.n).mono ?_
         rintro e w6 ⟨rfl, m6⟩
         have i7 := IsR.mod0 (by assumption) m6
         have m7 : Mod [g] w1 w6 := Mod.trans0 (by assumption) m6
         have c7 := HF.out _ m7
         have c4 := H4.out _ m7
         have c32 := H32.out _ m7
         have c20 := H20.out _ m7
         clear m6)
      | (go_at_call 71
         refine (HWD.out _ (by assumption)).mono ?_
         rintro e w6 ⟨rfl, m6⟩
         have i7 := IsR.mod0 (by assumption) m6
         have m7 : Mod [g] w1 w6 := Mod.trans0 (by assumption) m6
         have c7 := HF.out _ m7
         have c4 := H4.out _ m7
         have c32 := H32.out _ m7
         have c20 := H20.out _ m7
         clear m6))
  clear i0
  have i0 := i7.mod0 (Mod.refl [] w6).drew
  have d1 := m7.drew
  have d0 := d1
  clear d1
  go_wp2_with fail
  obtain ⟨T, hT⟩ : ∃ T : TypeId, T = 92 := ⟨_, rfl⟩
  have HLD := Lib.hid (fun (w2 : World) (h2 : Mod [g] w1 w2) => (show (LoadO 92 (.pointer (some ⟨w.heap.size + 1 + 1 + 1, 0, none⟩))).run Try.prog w2 = .ok (.agg z20.toArray) w2 from loadO_mid (H20.out w2 h2) u20 rfl i20))
  have hlg : IsLong T := hT
  rw [← hT] at q20 g20 HLD ⊢
  have HT := Lib.hid hT
  clear hT u20 i20 c7 c4 c32 c20 H20
  go_region_held3 (fun w' => w'.cell? ⟨w.heap.size, 1, none⟩ = some (.int .i64 s.n) ∧ (LoadO 46 (.pointer (some ⟨w.heap.size + 1, 0, none⟩))).run Try.prog w' = .ok (.agg z4) w' ∧ w'.rangeAt (w.heap.size + 1 + 1) 0 z32 ∧ (LoadO T (.pointer (some ⟨w.heap.size + 1 + 1 + 1, 0, none⟩))).run Try.prog w' = .ok (.agg z20.toArray) w' ∧ IsR w' B g v R ∧ Mod [g] w1 w')
    (first
      | exact ⟨HF.out _ d0, H4.out _ d0, H32.out _ d0, HLD.out _ d0, i0, d0⟩
      | exact ⟨by assumption, by assumption, by assumption, by assumption, by assumption, by assumption⟩)
    (first
      | (go_at_call 72
         refine (HDG.out _ (by assumption)).mono ?_
         rintro e w6 ⟨rfl, m6⟩
         have i7 := IsR.mod0 (by assumption) m6
         have m7 : Mod [g] w1 w6 := Mod.trans0 (by assumption) m6
         have c7 := HF.out _ m7
         have c4 := H4.out _ m7
         have c32 := H32.out _ m7
         have c20 := HLD.out _ m7
         clear m6)
      | (go_at_call 73
         refine (HAD.out _ (by assumption)).mono ?_
         rintro e w6 ⟨rfl, m6⟩
         have i7 := IsR.mod0 (by assumption) m6
         have m7 : Mod [g] w1 w6 := Mod.trans0 (by assumption) m6
         have c7 := HF.out _ m7
         have c4 := H4.out _ m7
         have c32 := H32.out _ m7
         have c20 := HLD.out _ m7
         clear m6)
      | (go_at_call 15
         refine (listInt_skip B g v R _ (by assumption) HER.out s.n).mono ?_
         rintro e w6 ⟨rfl, i7, m6⟩
         have m7 : Mod [g] w1 w6 := Mod.trans (by assumption) m6 (fun x hx => .inl hx)
         have c7 := HF.out _ m7
         have c4 := H4.out _ m7
         have c32 := H32.out _ m7
         have c20 := HLD.out _ m7
         clear m6))
  clear c7 c4 c32 c20 d0 i0
  go_wp2_with fail
  refine (at_any B g v R w6 i7).mono ?_
  rintro e w8 ⟨rfl, hw8⟩
  subst hw8
  rw [HRA.out]
  go_wp2_with fail
  refine (err_any B g v R w8 i7).mono ?_
  rintro e w9 ⟨rfl, hw9⟩
  subst hw9
  rw [HRE.out]
  go_wp2_with fail
  go_ret
  exact ⟨rfl, i7, Mod.trans (HM.out.mono (by simp)) m7 (fun x hx => .inl hx)⟩
end Go.Proofs.Ytnmcbdppbpfegaa
