/- What end does: the digest of what was taken and of a few bits more. Conditions: the table of the steps lies in its variable; fewer than eight bits more. -/
import Derived.Test.YtmdgefiojapogaaDoorDgHash
import Derived.Deep.DeepCutAuto
namespace Go.Proofs.YtmdgefiojapogaaDoor
open Go.RowKit
attribute [local go_sem high] one8 st8 cm8 b_and8 b_and8r b_and8l b_or8 b_or8r b_or8l b_xor8 b_xor8r b_xor8l b_andNot8 b_andNot8r b_andNot8l b_add8 b_add8r b_add8l b_sub8 b_sub8r b_sub8l b_mul8 b_mul8r b_mul8l b_eql8 b_eql8r b_eql8l b_neq8 b_neq8r b_neq8l b_lss8 b_lss8r b_lss8l b_leq8 b_leq8r b_leq8l b_gtr8 b_gtr8r b_gtr8l b_geq8 b_geq8r b_geq8l b_quo8r b_rem8r b_shl8r b_shr8r b_shl8l b_shr8l u_xor8 g_eql8 g_neq8 g_eql8' g_neq8' one32 st32 cm32 b_and32 b_and32r b_and32l b_or32 b_or32r b_or32l b_xor32 b_xor32r b_xor32l b_andNot32 b_andNot32r b_andNot32l b_add32 b_add32r b_add32l b_sub32 b_sub32r b_sub32l b_mul32 b_mul32r b_mul32l b_eql32 b_eql32r b_eql32l b_neq32 b_neq32r b_neq32l b_lss32 b_lss32r b_lss32l b_leq32 b_leq32r b_leq32l b_gtr32 b_gtr32r b_gtr32l b_geq32 b_geq32r b_geq32l b_quo32r b_rem32r b_shl32r b_shr32r b_shl32l b_shr32l u_xor32 g_eql32 g_neq32 g_eql32' g_neq32' one64 st64 cm64 b_and64 b_and64r b_and64l b_or64 b_or64r b_or64l b_xor64 b_xor64r b_xor64l b_andNot64 b_andNot64r b_andNot64l b_add64 b_add64r b_add64l b_sub64 b_sub64r b_sub64l b_mul64 b_mul64r b_mul64l b_eql64 b_eql64r b_eql64l b_neq64 b_neq64r b_neq64l b_lss64 b_lss64r b_lss64l b_leq64 b_leq64r b_leq64l b_gtr64 b_gtr64r b_gtr64l b_geq64 b_geq64r b_geq64l b_quo64r b_rem64r b_shl64r b_shr64r b_shl64l b_shr64l u_xor64 g_eql64 g_neq64 g_eql64' g_neq64' c_u8_u8 c_u8_u32 c_u8_u64 c_i_u8 c_u32_u8 c_u32_u32 c_u32_u64 c_i_u32 c_u64_u8 c_u64_u32 c_u64_u64 c_i_u64 c_u8_i c_u32_i
attribute [local go_sem ↓] ce8 ce32 ce64
attribute [local go_sem ↓] sliced_slp loadO62 loadO64 storeO62
theorem zero5 : (Tryd.prog.info? 5).map (fun i => (i.zero, i.size)) = some (some (.int .u8 0), 1) := by kernel_rfl
theorem built64 : Tryd.prog.built 126 [] = some ((zeros 64).map V8).toArray := by kernel_rfl
theorem storeO64 (p v : Value) : Instr.storeAt 126 p v = StoreO 126 p v := rfl
theorem loadO26 (p : Value) : Instr.loadAt 24 p = LoadO 24 p := rfl
theorem storeO26 (p v : Value) : Instr.storeAt 24 p v = StoreO 24 p v := rfl
attribute [local go_sem ↓] storeO64 loadO26 storeO26
theorem info26 : (Tryd.prog.info? 24).map (·.size) = some 32 := by kernel_rfl
theorem storeD {w : World} {b : Nat} {C : Array Value} (p : List UInt8) (hp : p.length = 32) (hg : w.heap[b]? = some (.cells C 24 (0, 0))) (hC : C.size = 32) :
    (StoreO 24 (.pointer (some ⟨b, 0, none⟩)) (.agg (p.map V8).toArray)).run Tryd.prog w = .ok () (w.setRow b (p.map V8).toArray) :=
  storeO_row (P := Tryd.prog) hg (by simp [hp, hC]) (by simpa [hp] using info26) (by simp [one8])
theorem loadD {w : World} {b : Nat} (p : List UInt8) (hp : p.length = 32) (hg : w.heap[b]? = some (.cells (p.map V8).toArray 24 (0, 0))) :
    (LoadO 24 (.pointer (some ⟨b, 0, none⟩))).run Tryd.prog w = .ok (.agg (p.map V8).toArray) w := loadO_row hg Tryd.underlying24 rfl (by simpa [hp] using info26)
attribute [local irreducible] compress hst pad1
set_option maxRecDepth 100000 in
set_option maxHeartbeats 2000000 in
theorem end_any (g : Nat) (l : List UInt8) (last : UInt8) (more : Nat) (w : World) (h : IsHash w g l) (ht : Tab w) (hm : more < 8) :
    Calls Tryd.prog 74 #[.pointer (some ⟨g, 0, none⟩), V8 last, .int .i64 more] w fun e w' => e = .returned (.agg ((fin l last more).map V8).toArray) ∧ Mod [] w w' := by
  obtain ⟨wt, hwt, htl, hb⟩ := h
  have hr1 := range_blk hb 0 [V32 (hst l).a, V32 (hst l).b, V32 (hst l).c, V32 (hst l).d, V32 (hst l).e, V32 (hst l).f, V32 (hst l).g, V32 (hst l).h] (fun j v hv => by simpa using hcells_s _ _ _ j v hv)
  have hr2 := range_blk hb 8 (wt.map V8) (fun j v hv => by simpa using hcells_w _ _ _ j v hv)
  have HT := Lib.hid ht
  have HB := Lib.hid hb
  have HTL := Lib.hid htl
  have HWT := Lib.hid hwt
  have HR1 := Lib.hid hr1
  have HR2 := Lib.hid hr2
  have I64 := Lib.hid (show (Tryd.prog.info? 126).map (·.size) = some (wt.map V8).length by simpa [HWT.out] using info64)
  clear hr1 hr2 hb htl hwt ht
  go_enter Tryd.func74, Tryd.ntmps74
  go_upto_region 1 with fail
  have hls0 : ∀ A : Obj, (LoadO 124 (.pointer (some ⟨g, 0, none⟩))).run Tryd.prog (w.alloc A).drew = .ok (stv (hst l)) (w.alloc A).drew := fun A => loadO_mid (w := (w.alloc A).drew) (World.rangeAt_alloc (HR1.out) A) Tryd.underlying124 rfl info62
  have hls1 : ∀ A B : Obj, (LoadO 124 (.pointer (some ⟨g, 0, none⟩))).run Tryd.prog ((w.alloc A).alloc B).drew = .ok (stv (hst l)) ((w.alloc A).alloc B).drew := fun A B => loadO_mid (w := ((w.alloc A).alloc B).drew) (World.rangeAt_alloc (World.rangeAt_alloc (HR1.out) A) B) Tryd.underlying124 rfl info62
  have hls2 : ∀ A B C : Obj, (LoadO 124 (.pointer (some ⟨g, 0, none⟩))).run Tryd.prog (((w.alloc A).alloc B).alloc C).drew = .ok (stv (hst l)) (((w.alloc A).alloc B).alloc C).drew := fun A B C => loadO_mid (w := (((w.alloc A).alloc B).alloc C).drew) (World.rangeAt_alloc (World.rangeAt_alloc (World.rangeAt_alloc (HR1.out) A) B) C) Tryd.underlying124 rfl info62
  have hlw0 : ∀ A : Obj, (LoadO 126 (.pointer (some ⟨g, 8, none⟩))).run Tryd.prog (w.alloc A).drew = .ok (.agg (wt.map V8).toArray) (w.alloc A).drew := fun A => loadO_mid (w := (w.alloc A).drew) (World.rangeAt_alloc (HR2.out) A) Tryd.underlying126 rfl I64.out
  have hlw1 : ∀ A B : Obj, (LoadO 126 (.pointer (some ⟨g, 8, none⟩))).run Tryd.prog ((w.alloc A).alloc B).drew = .ok (.agg (wt.map V8).toArray) ((w.alloc A).alloc B).drew := fun A B => loadO_mid (w := ((w.alloc A).alloc B).drew) (World.rangeAt_alloc (World.rangeAt_alloc (HR2.out) A) B) Tryd.underlying126 rfl I64.out
  have hlw2 : ∀ A B C : Obj, (LoadO 126 (.pointer (some ⟨g, 8, none⟩))).run Tryd.prog (((w.alloc A).alloc B).alloc C).drew = .ok (.agg (wt.map V8).toArray) (((w.alloc A).alloc B).alloc C).drew := fun A B C => loadO_mid (w := (((w.alloc A).alloc B).alloc C).drew) (World.rangeAt_alloc (World.rangeAt_alloc (World.rangeAt_alloc (HR2.out) A) B) C) Tryd.underlying126 rfl I64.out
  have hss1 : ∀ (A Y : Obj) (C : Array Value), C.size = 8 → (StoreO 124 (.pointer (some ⟨w.heap.size + 1, 0, none⟩)) (stv (hst l))).run Tryd.prog (((w.alloc A).alloc (.cells C 124)).alloc Y).drew = .ok () (((w.alloc A).alloc (.cells #[V32 (hst l).a, V32 (hst l).b, V32 (hst l).c, V32 (hst l).d, V32 (hst l).e, V32 (hst l).f, V32 (hst l).g, V32 (hst l).h] 124)).alloc Y).drew := fun A Y C hC => storeO_new2 (w := w.alloc A) Y _ (by simp) (by simp [hC, HWT.out]) info62 (by simp [one32])
  have hss2 : ∀ (A X : Obj) (C : Array Value), C.size = 8 → (StoreO 124 (.pointer (some ⟨w.heap.size + 1 + 1, 0, none⟩)) (stv (hst l))).run Tryd.prog (((w.alloc A).alloc X).alloc (.cells C 124)).drew = .ok () (((w.alloc A).alloc X).alloc (.cells #[V32 (hst l).a, V32 (hst l).b, V32 (hst l).c, V32 (hst l).d, V32 (hst l).e, V32 (hst l).f, V32 (hst l).g, V32 (hst l).h] 124)).drew := fun A X C hC => storeO_new (w := (w.alloc A).alloc X) _ (by simp) (by simp [hC, HWT.out]) info62 (by simp [one32])
  have hsw1 : ∀ (A Y : Obj) (C : Array Value), C.size = 64 → (StoreO 126 (.pointer (some ⟨w.heap.size + 1, 0, none⟩)) (.agg (wt.map V8).toArray)).run Tryd.prog (((w.alloc A).alloc (.cells C 126)).alloc Y).drew = .ok () (((w.alloc A).alloc (.cells (wt.map V8).toArray 126)).alloc Y).drew := fun A Y C hC => storeO_new2 (w := w.alloc A) Y _ (by simp) (by simp [hC, HWT.out]) (by simpa using I64.out) (by simp [one8])
  have hsw2 : ∀ (A X : Obj) (C : Array Value), C.size = 64 → (StoreO 126 (.pointer (some ⟨w.heap.size + 1 + 1, 0, none⟩)) (.agg (wt.map V8).toArray)).run Tryd.prog (((w.alloc A).alloc X).alloc (.cells C 126)).drew = .ok () (((w.alloc A).alloc X).alloc (.cells (wt.map V8).toArray 126)).drew := fun A X C hC => storeO_new (w := (w.alloc A).alloc X) _ (by simp) (by simp [hC, HWT.out]) (by simpa using I64.out) (by simp [one8])
  go_cut [7, 8] (fun s7 s8 wx => ∃ b7 b8 : Nat, b7 ≠ b8 ∧ w.heap.size < b7 ∧ w.heap.size < b8 ∧ s7 = .pointer (some ⟨b7, 0, none⟩) ∧ s8 = .pointer (some ⟨b8, 0, none⟩) ∧
    wx.heap[b7]? = some (.cells #[V32 (hst l).a, V32 (hst l).b, V32 (hst l).c, V32 (hst l).d, V32 (hst l).e, V32 (hst l).f, V32 (hst l).g, V32 (hst l).h] 124) ∧ wx.heap[b8]? = some (.cells (wt.map V8).toArray 126) ∧
    (∃ Z : Array Value, Z.size = 32 ∧ wx.heap[w.heap.size]? = some (.cells Z 24)) ∧ Mod [] w wx)
  case first =>
    go_region
    all_goals
      go_wp2_with fail
      go_meet
      case rel =>
        first
        | exact ⟨w.heap.size + 1, w.heap.size + 1 + 1, by omega, by omega, by omega, rfl, rfl, hp_drew (hp_old (hp_new _ _ _ (by simp))), hp_drew (hp_new _ _ _ (by simp)), ⟨_, by rfl, hp_drew (hp_old (hp_old (hp_new _ _ _ rfl)))⟩, ((((Mod.refl [] w).alloc _).alloc _).alloc _).drew⟩
        | exact ⟨w.heap.size + 1 + 1, w.heap.size + 1, by omega, by omega, by omega, rfl, rfl, hp_drew (hp_new _ _ _ (by simp)), hp_drew (hp_old (hp_new _ _ _ (by simp))), ⟨_, by rfl, hp_drew (hp_old (hp_old (hp_new _ _ _ rfl)))⟩, ((((Mod.refl [] w).alloc _).alloc _).alloc _).drew⟩
  case rest =>
    clear hls0 hls1 hls2 hlw0 hlw1 hlw2 hss1 hss2 hsw1 hsw2
    obtain ⟨b7, b8, hne, h7, h8, rfl, rfl, hb7, hb8, ⟨Z, hZ, hbr⟩, hmw⟩ := hcut
    have hgb := lt_of_block HB.out
    have hcn : wc.cell? ⟨g, 72, none⟩ = some (.int .i64 (l.length : Int)) := by rw [cell_blk (hmw.get0 HB.out), hcells_n _ _ _ HWT.out]
    have HB7 := Lib.hid hb7
    have HB8 := Lib.hid hb8
    have HBR := Lib.hid hbr
    have HZ := Lib.hid hZ
    clear hb7 hb8 hbr hZ
    obtain ⟨m, hm64⟩ : ∃ m, m = l.length % 64 := ⟨_, rfl⟩
    have hmi : (l.length : Int) % 64 = (m : Int) := by omega
    have hm1 : (m : Int) ≤ 64 := by omega
    have hm2 : m < 64 := by omega
    have HM := Lib.hid hm64
    clear hm64
    go_wp2_with (with_reducible refine froz_clear _ _ rfl ?_)
    unfold Froz
    refine wpList_clear_blk rfl _ _ rfl (b := b8) (o := m) (n := 64 - m) rfl Tryd.underlying27 zero5 rfl rfl (by omega) HB8.out (by simp [HWT.out]; omega) ?_
    refine abs_w (C := fun W => wpList _ _ _ _ _ W) (fun W => W.heap[b8]? = some (.cells ((tl l ++ List.replicate (64 - m) 0).map V8).toArray 126) ∧ W.heap[b7]? = some (.cells #[V32 (hst l).a, V32 (hst l).b, V32 (hst l).c, V32 (hst l).d, V32 (hst l).e, V32 (hst l).f, V32 (hst l).g, V32 (hst l).h] 124) ∧ W.heap[w.heap.size]? = some (.cells Z 24) ∧ Mod [] w W)
      ⟨?_, hp_setRow_ne HB7.out hne, hp_setRow_ne HBR.out (by omega), hmw.setRow (.inr (by omega)) _⟩ ?_
    · rw [hp_setRow HB8.out]
      congr 3
      have e1 : wt.take m = tl l := by rw [← HTL.out, ← HM.out]
      rw [← e1]
      have e2 : (64 : Nat) ≤ m + (64 - m) := by omega
      simp [List.map_take, List.drop_eq_nil_of_le (show (wt.map V8).length ≤ m + (64 - m) by simp [HWT.out]; omega)]
      exact .inr rfl
    clear hmw hcn
    rintro W2 ⟨hb8, hb7, hbr, hm3⟩
    clear HB7 HB8 HBR
    have c8 : W2.cell? ⟨b8, m, none⟩ = some (V8 0) := by
      rw [cell_blk hb8]
      have ht : (tl l).length = m := by rw [tl_length, ← HM.out]
      simp [List.getElem?_append, ht, List.getElem?_replicate, hm2]; omega
    have f8 : W2.frozen? ⟨b8, m, none⟩ = false := frozen_blk hb8 m
    have hcn : W2.cell? ⟨g, 72, none⟩ = some (.int .i64 (l.length : Int)) := by rw [cell_blk (hm3.get0 HB.out), hcells_n _ _ _ HWT.out]
    have HB7 := Lib.hid hb7
    have HB8 := Lib.hid hb8
    have HBR := Lib.hid hbr
    clear hb7 hb8 hbr
    have hm0 : (m : Int) < 64 := by omega
    have hmo : (more : Int) < 8 := by omega
    go_wp2_with fail
    go_region
    clear c8 f8
    refine abs_w (C := fun W => Exit.then _ _ _ _ W) (fun W => W.heap[b8]? = some (.cells ((pad1 l last more).map V8).toArray 126) ∧ W.heap[b7]? = some (.cells #[V32 (hst l).a, V32 (hst l).b, V32 (hst l).c, V32 (hst l).d, V32 (hst l).e, V32 (hst l).f, V32 (hst l).g, V32 (hst l).h] 124) ∧ W.heap[w.heap.size]? = some (.cells Z 24) ∧ Mod [] w W) ⟨?_, ?_, ?_, (hm3.setCell (.inr (by show _ ≤ b8; omega)) _).drew⟩ ?_
    · refine hp_drew ?_
      rw [setCell_blk _ HB8.out, hp_setRow HB8.out, map_set]
      have ht : (tl l).length = m := by rw [tl_length, ← HM.out]
      have e : (tl l ++ List.replicate (64 - m) 0).set m (last &&& ~~~(255 >>> UInt8.ofNat more) ||| 128 >>> UInt8.ofNat more) = pad1 l last more := by
        rw [List.set_append_right _ _ (by omega), ht, Nat.sub_self, show 64 - m = (63 - m) + 1 by omega, List.replicate_succ, List.set_cons_zero]
        unfold pad1
        rw [← HM.out]
        rfl
      rw [e]
    · rw [setCell_blk _ HB8.out]; exact hp_drew (hp_setRow_ne HB7.out hne)
    · rw [setCell_blk _ HB8.out]; exact hp_drew (hp_setRow_ne HBR.out (by omega))
    clear hm3 HB7 HB8 HBR hcn
    rintro W3 ⟨hb8, hb7, hbr, hm4⟩
    have hcn : W3.cell? ⟨g, 72, none⟩ = some (.int .i64 (l.length : Int)) := by rw [cell_blk (hm4.get0 HB.out), hcells_n _ _ _ HWT.out]
    have HB7 := Lib.hid hb7
    have HB8 := Lib.hid hb8
    have HBR := Lib.hid hbr
    clear hb7 hb8 hbr
    go_upto_if 39 with fail
    have hL1 : (LoadO 124 (.pointer (some ⟨b7, 0, none⟩))).run Tryd.prog W3 = .ok (stv (hst l)) W3 := loadS _ HB7.out
    have hL2 : (LoadO 126 (.pointer (some ⟨b8, 0, none⟩))).run Tryd.prog W3 = .ok (.agg ((pad1 l last more).map V8).toArray) W3 := loadW _ (pad1_length _ _ _) HB8.out
    have hT3 : Tab W3 := Tab.mod hm4 HT.out (by simp)
    have HT3 := Lib.hid hT3
    clear hT3
    go_cut [] (fun wx => ∃ (s : St) (p : List UInt8), p.length = 64 ∧ s = (if 56 ≤ l.length % 64 then compress (hst l) (pad1 l last more) else hst l) ∧ p = (if 56 ≤ l.length % 64 then zeros 64 else pad1 l last more) ∧
      wx.heap[b7]? = some (.cells #[V32 s.a, V32 s.b, V32 s.c, V32 s.d, V32 s.e, V32 s.f, V32 s.g, V32 s.h] 124) ∧ wx.heap[b8]? = some (.cells (p.map V8).toArray 126) ∧ wx.heap[w.heap.size]? = some (.cells Z 24) ∧ Mod [] w wx)
    case first =>
      by_cases h56 : 56 ≤ m
      · have hd : decide ((56 : Int) ≤ (m : Int)) = true := by simp; omega
        go_wp2_with (first
          | (go_at_call 73; refine (take_any (hst l) (pad1 l last more) _ (pad1_length _ _ _) HT3.out).mono ?_; rintro e w5 ⟨rfl, hm5⟩
             have hS1 : (StoreO 124 (.pointer (some ⟨b7, 0, none⟩)) (stv (compress (hst l) (pad1 l last more)))).run Tryd.prog w5 = .ok () (w5.setRow b7 #[V32 (compress (hst l) (pad1 l last more)).a, V32 (compress (hst l) (pad1 l last more)).b, V32 (compress (hst l) (pad1 l last more)).c, V32 (compress (hst l) (pad1 l last more)).d, V32 (compress (hst l) (pad1 l last more)).e, V32 (compress (hst l) (pad1 l last more)).f, V32 (compress (hst l) (pad1 l last more)).g, V32 (compress (hst l) (pad1 l last more)).h]) := storeS _ (hm5.get0 HB7.out) rfl
             have hS2 : (StoreO 126 (.pointer (some ⟨b8, 0, none⟩)) (.agg ((zeros 64).map V8).toArray)).run Tryd.prog (w5.setRow b7 #[V32 (compress (hst l) (pad1 l last more)).a, V32 (compress (hst l) (pad1 l last more)).b, V32 (compress (hst l) (pad1 l last more)).c, V32 (compress (hst l) (pad1 l last more)).d, V32 (compress (hst l) (pad1 l last more)).e, V32 (compress (hst l) (pad1 l last more)).f, V32 (compress (hst l) (pad1 l last more)).g, V32 (compress (hst l) (pad1 l last more)).h]) = .ok () ((w5.setRow b7 #[V32 (compress (hst l) (pad1 l last more)).a, V32 (compress (hst l) (pad1 l last more)).b, V32 (compress (hst l) (pad1 l last more)).c, V32 (compress (hst l) (pad1 l last more)).d, V32 (compress (hst l) (pad1 l last more)).e, V32 (compress (hst l) (pad1 l last more)).f, V32 (compress (hst l) (pad1 l last more)).g, V32 (compress (hst l) (pad1 l last more)).h]).setRow b8 ((zeros 64).map V8).toArray) := storeW (zeros 64) (zeros_length 64) (hp_setRow_ne (hm5.get0 HB8.out) (fun e => hne e.symm)) (by simp [pad1_length]))
          | (refine wpList_built rfl 126 _ rfl ((zeros 64).map V8).toArray built64 ?_))
        go_meet
        case rel =>
          exact ⟨_, zeros 64, zeros_length 64, by rw [if_pos (by have := HM.out; omega)], by rw [if_pos (by have := HM.out; omega)], hp_setRow_ne (hp_setRow (hm5.get0 HB7.out)) hne, hp_setRow (hp_setRow_ne (hm5.get0 HB8.out) (fun e => hne e.symm)), hp_setRow_ne (hp_setRow_ne (hm5.get0 HBR.out) (by omega)) (by omega), ((hm4.trans0 hm5).setRow (.inr (by omega)) _).setRow (.inr (by omega)) _⟩
      · have hd : decide ((56 : Int) ≤ (m : Int)) = false := by simp; omega
        go_wp2_with fail
        go_meet
        case rel =>
          exact ⟨hst l, pad1 l last more, pad1_length _ _ _, by rw [if_neg (by have := HM.out; omega)], by rw [if_neg (by have := HM.out; omega)], HB7.out, HB8.out, HBR.out, hm4⟩
    case rest =>
      clear hL1 hL2 HB7 HB8 HBR HT3
      obtain ⟨s, p, hp64, hs, hp, hb7, hb8, hbr, hm5⟩ := hcut
      have HS := Lib.hid hs
      have HP := Lib.hid hp
      have HP64 := Lib.hid hp64
      have HB7 := Lib.hid hb7
      have HB8 := Lib.hid hb8
      have HBR := Lib.hid hbr
      clear hs hp hp64 hb7 hb8 hbr hcn
      rename_i wc1
      have hcn : wc.cell? ⟨g, 72, none⟩ = some (.int .i64 (l.length : Int)) := by rw [cell_blk (hm5.get0 HB.out), hcells_n _ _ _ HWT.out]
      go_wp2_with fail
      obtain ⟨nn, hnn⟩ : ∃ nn, nn = UInt64.ofNat l.length * 8 + UInt64.ofNat more := ⟨_, rfl⟩
      rw [← hnn]
      have HN := Lib.hid hnn
      clear hnn hcn
      go_loopw [53] (fun v wr => ∃ i : Nat, i ≤ 8 ∧ v = .int .i64 i ∧ wr.heap[b8]? = some (.cells ((fillN p nn i).map V8).toArray 126) ∧ wr.heap[b7]? = some (.cells #[V32 s.a, V32 s.b, V32 s.c, V32 s.d, V32 s.e, V32 s.f, V32 s.g, V32 s.h] 124) ∧ wr.heap[w.heap.size]? = some (.cells Z 24) ∧ Mod [] w wr) (fun v _ => 8 - (intOf v).toNat)
      case atStart => exact ⟨0, by omega, rfl, HB8.out, HB7.out, HBR.out, hm5⟩
      case round =>
        clear HB7 HB8 HBR hm5
        obtain ⟨i, hi, rfl, hb8, hb7, hbr, hm5⟩ := hrel
        have HB7 := Lib.hid hb7
        have HB8 := Lib.hid hb8
        have HBR := Lib.hid hbr
        have hfl : (fillN p nn i).length = 64 := by rw [fillN_length, HP64.out]
        have HFL := Lib.hid hfl
        clear hb7 hb8 hbr hfl
        by_cases hlt : i < 8
        · have c8 : wr.cell? ⟨b8, 63 - i, none⟩ = some (V8 ((fillN p nn i).getD (63 - i) 0)) := by
            rw [cell_blk HB8.out]
            have := cell_map V8 (fillN p nn i) (63 - i) 0 (by rw [HFL.out]; omega)
            simpa using this
          have f8 : wr.frozen? ⟨b8, 63 - i, none⟩ = false := frozen_blk HB8.out _
          have h8 : (8 * (i : Int)) < 64 := by omega
          have h80 : (0 : Int) ≤ 8 * (i : Int) := by omega
          go_wp2_with fail
          go_roundw
          case rel =>
            refine ⟨i + 1, by omega, by go_num, ?_, ?_, ?_, hm5.setCell (.inr (by show _ ≤ b8; omega)) _⟩
            · rw [setCell_blk _ HB8.out, hp_setRow HB8.out, map_set, fillN]
            · rw [setCell_blk _ HB8.out]; exact hp_setRow_ne HB7.out hne
            · rw [setCell_blk _ HB8.out]; exact hp_setRow_ne HBR.out (by omega)
          case measure => simp [intOf]; omega
        · have hd : decide ((i : Int) < 8) = false := by simp; omega
          have hi8 : i = 8 := by omega
          have hL1 : (LoadO 124 (.pointer (some ⟨b7, 0, none⟩))).run Tryd.prog wr = .ok (stv s) wr := loadS _ HB7.out
          have hL2 : (LoadO 126 (.pointer (some ⟨b8, 0, none⟩))).run Tryd.prog wr = .ok (.agg ((fillN p nn i).map V8).toArray) wr := loadW _ HFL.out HB8.out
          have HT3 := Lib.hid (show Tab wr from Tab.mod hm5 HT.out (by simp))
          have HI := Lib.hid hi8
          clear hi8
          obtain ⟨fs, hfs⟩ : ∃ fs, fs = compress s (fillN p nn i) := ⟨_, rfl⟩
          have HFS := Lib.hid hfs
          clear hfs
          go_wp2_with (go_at_call 73; refine (take_any s (fillN p nn i) _ HFL.out HT3.out).mono ?_; rintro e w5 ⟨rfl, hm6⟩; rw [← HFS.out]
                       have hS1 : (StoreO 124 (.pointer (some ⟨b7, 0, none⟩)) (stv fs)).run Tryd.prog w5 = .ok () (w5.setRow b7 #[V32 fs.a, V32 fs.b, V32 fs.c, V32 fs.d, V32 fs.e, V32 fs.f, V32 fs.g, V32 fs.h]) := storeS _ (hm6.get0 HB7.out) rfl)
          have hbd : b7 < w5.heap.size := Nat.lt_of_lt_of_le (lt_of_block HB7.out) hm6.size
          have hbd2 : w.heap.size < w5.heap.size := by omega
          go_loopw [68] (fun v wr2 => ∃ (j : Nat) (ds : List UInt8), j ≤ 32 ∧ v = .int .i64 j ∧ ds.length = 32 ∧ ds.take j = (List.range j).map (outByte fs) ∧ wr2.heap[w5.heap.size]? = some (.cells (ds.map V8).toArray 24) ∧ wr2.heap[b7]? = some (.cells #[V32 fs.a, V32 fs.b, V32 fs.c, V32 fs.d, V32 fs.e, V32 fs.f, V32 fs.g, V32 fs.h] 124) ∧ wr2.heap[w.heap.size]? = some (.cells Z 24) ∧ Mod [] w wr2) (fun v _ => 32 - (intOf v).toNat)
          case atStart => exact ⟨0, zeros 32, by omega, rfl, zeros_length 32, rfl, hp_new _ _ _ (by simp), hp_old (hp_setRow (hm6.get0 HB7.out)), hp_old (hp_setRow_ne (hm6.get0 HBR.out) (by omega)), ((hm5.trans0 hm6).setRow (.inr (by omega)) _).alloc _⟩
          case round =>
            clear HB7 HB8 HBR hm5 hL1 hL2 hS1
            obtain ⟨j, ds, hj, rfl, hds, htk, hbD, hb7, hbr, hm7⟩ := hrel
            have HB7 := Lib.hid hb7
            have HBD := Lib.hid hbD
            have HBR := Lib.hid hbr
            have HDS := Lib.hid hds
            have HTK := Lib.hid htk
            clear hb7 hbD hbr hds htk
            by_cases hlt2 : j < 32
            · have cD : wr.cell? ⟨w5.heap.size, j, none⟩ = some (V8 (ds.getD j 0)) := by
                rw [cell_blk HBD.out]
                have := cell_map V8 ds j 0 (by rw [HDS.out]; omega)
                simpa using this
              have fD : wr.frozen? ⟨w5.heap.size, j, none⟩ = false := frozen_blk HBD.out _
              have c7 : wr.cell? ⟨b7, j / 4, none⟩ = some (V32 (fs.l[j / 4]?.getD 0)) := by
                rw [cell_blk HB7.out]
                have := cell_map V32 fs.l (j / 4) 0 (show j / 4 < 8 by omega)
                simpa [St.l] using this
              obtain ⟨q, hq⟩ : ∃ q, q = 24 - 8 * (j % 4) := ⟨_, rfl⟩
              have hqi : (24 : Int) - 8 * ((j : Int) % 4) = (q : Int) := by omega
              have hq2 : (q : Int) < 32 := by omega
              have HQ := Lib.hid hq
              clear hq
              go_wp2_with fail
              go_roundw
              case rel =>
                refine ⟨j + 1, ds.set j (outByte fs j), by omega, by go_num, by simpa using HDS.out, ?_, ?_, ?_, ?_, hm7.setCell (.inr (by show _ ≤ w5.heap.size; omega)) _⟩
                · rw [take_set_succ _ _ _ (by rw [HDS.out]; omega), HTK.out, map_range_succ]
                · rw [setCell_blk _ HBD.out, hp_setRow HBD.out, map_set, outByte, ← HQ.out]
                · rw [setCell_blk _ HBD.out]; exact hp_setRow_ne HB7.out (by omega)
                · rw [setCell_blk _ HBD.out]; exact hp_setRow_ne HBR.out (by omega)
              case measure => simp [intOf]; omega
            · have hd : decide ((j : Int) < 32) = false := by simp; omega
              have hj32 : ds = out fs := by
                have h32 : j = 32 := by omega
                have := HTK.out
                rw [h32, List.take_of_length_le (by rw [HDS.out]; omega)] at this
                exact this
              have HJ := Lib.hid hj32
              have hL3 : (LoadO 24 (.pointer (some ⟨w5.heap.size, 0, none⟩))).run Tryd.prog wr = .ok (.agg (ds.map V8).toArray) wr := loadD _ HDS.out HBD.out
              have hS3 : (StoreO 24 (.pointer (some ⟨w.heap.size, 0, none⟩)) (.agg (ds.map V8).toArray)).run Tryd.prog wr = .ok () (wr.setRow w.heap.size (ds.map V8).toArray) := storeD _ HDS.out HBR.out HZ.out
              clear hj32
              go_wp2_with fail
              refine bodyPost_ret (results_cell_row rfl _ _ _ _ _ _ _ rfl (hp_setRow HBR.out) Tryd.underlying24 rfl (by simpa [HDS.out] using info26)) rfl ⟨?_, hm7.setRow (.inr (Nat.le_refl _)) _⟩
              have hend : fin l last more = out fs := by
                unfold fin endSt
                rw [HFS.out, HS.out, HI.out, HP.out, HN.out]
              rw [hend, ← HJ.out]
end Go.Proofs.YtmdgefiojapogaaDoor
