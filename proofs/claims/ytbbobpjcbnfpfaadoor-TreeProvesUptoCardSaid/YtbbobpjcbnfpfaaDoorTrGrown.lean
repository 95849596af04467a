/- grown of the program's tree. Conditions: as TrRoot. -/
import Derived.Test.YtbbobpjcbnfpfaaDoorTrShown
namespace Go.Proofs.YtbbobpjcbnfpfaaDoor
open Go.RowKit
attribute [local go_sem high] one8 st8 cm8 b_and8 b_and8r b_and8l b_or8 b_or8r b_or8l b_xor8 b_xor8r b_xor8l b_andNot8 b_andNot8r b_andNot8l b_add8 b_add8r b_add8l b_sub8 b_sub8r b_sub8l b_mul8 b_mul8r b_mul8l b_eql8 b_eql8r b_eql8l b_neq8 b_neq8r b_neq8l b_lss8 b_lss8r b_lss8l b_leq8 b_leq8r b_leq8l b_gtr8 b_gtr8r b_gtr8l b_geq8 b_geq8r b_geq8l b_quo8r b_rem8r b_shl8r b_shr8r b_shl8l b_shr8l u_xor8 g_eql8 g_neq8 g_eql8' g_neq8' one32 st32 cm32 b_and32 b_and32r b_and32l b_or32 b_or32r b_or32l b_xor32 b_xor32r b_xor32l b_andNot32 b_andNot32r b_andNot32l b_add32 b_add32r b_add32l b_sub32 b_sub32r b_sub32l b_mul32 b_mul32r b_mul32l b_eql32 b_eql32r b_eql32l b_neq32 b_neq32r b_neq32l b_lss32 b_lss32r b_lss32l b_leq32 b_leq32r b_leq32l b_gtr32 b_gtr32r b_gtr32l b_geq32 b_geq32r b_geq32l b_quo32r b_rem32r b_shl32r b_shr32r b_shl32l b_shr32l u_xor32 g_eql32 g_neq32 g_eql32' g_neq32' one64 st64 cm64 b_and64 b_and64r b_and64l b_or64 b_or64r b_or64l b_xor64 b_xor64r b_xor64l b_andNot64 b_andNot64r b_andNot64l b_add64 b_add64r b_add64l b_sub64 b_sub64r b_sub64l b_mul64 b_mul64r b_mul64l b_eql64 b_eql64r b_eql64l b_neq64 b_neq64r b_neq64l b_lss64 b_lss64r b_lss64l b_leq64 b_leq64r b_leq64l b_gtr64 b_gtr64r b_gtr64l b_geq64 b_geq64r b_geq64l b_quo64r b_rem64r b_shl64r b_shr64r b_shl64l b_shr64l u_xor64 g_eql64 g_neq64 g_eql64' g_neq64' c_u8_u8 c_u8_u32 c_u8_u64 c_i_u8 c_u32_u8 c_u32_u32 c_u32_u64 c_i_u32 c_u64_u8 c_u64_u32 c_u64_u64 c_i_u64 c_u8_i c_u32_i
attribute [local go_sem ↓] ce8 ce32 ce64
attribute [local go_sem ↓] sliced_slp loadO26 storeO26 buildO24
/-- What 'grown' hands back. -/
def GrownPost (o : Option (Bs × Bs)) (w : World) (v : Value) (w' : World) : Prop := ∃ (a b : Bs) (ok : Bool), v = .tuple #[dv a, dv b, .bool ok] ∧ a.length = 32 ∧ b.length = 32 ∧ o = (if ok = true then some (a, b) else none) ∧ Mod [] w w'
theorem results_dv3 {fn : Func} {p q b : Tmp} (h : fn.results = #[.cell p 24, .cell q 24, .tmp b]) (tmps : Array Value) (w : World) (g g2 : Nat) (d e : List UInt8) (hd : d.length = 32) (he : e.length = 32) (fr fr2 : Nat × Nat)
    (hp : tmps.getD p undef = .pointer (some ⟨g, 0, none⟩)) (hq : tmps.getD q undef = .pointer (some ⟨g2, 0, none⟩)) (hg : w.heap[g]? = some (.cells (d.map V8).toArray 24 fr)) (hg2 : w.heap[g2]? = some (.cells (e.map V8).toArray 24 fr2)) :
    (results fn tmps).run Tryd.prog w = .ok (.tuple #[dv d, dv e, tmps.getD b undef]) w := by
  have hp' : tmps[p]?.getD undef = .pointer (some ⟨g, 0, none⟩) := by simpa using hp
  have hq' : tmps[q]?.getD undef = .pointer (some ⟨g2, 0, none⟩) := by simpa using hq
  have hrun := run_loadVar_row (P := Tryd.prog) w g _ 24 (d.map V8).toArray fr _ hg Tryd.underlying24 rfl (by simpa [hd] using info26)
  have hrun2 := run_loadVar_row (P := Tryd.prog) w g2 _ 24 (e.map V8).toArray fr2 _ hg2 Tryd.underlying24 rfl (by simpa [he] using info26)
  simp [results, h, hp', hq', asAddr, hrun, hrun2]
  exact ⟨rfl, rfl⟩
set_option maxRecDepth 100000 in
theorem grown_first (m c n : Nat) (was : Bs) (p : Option Addr) (w : World) (O : Option (Bs × Bs)) (hO : O = (if ((n : Int) == 0) = true then some (was, was) else none)) (hw : was.length = 32) :
    Calls Tryd.prog 75 #[.int .i64 m, .int .i64 m, dv was, .bool true, .slice p n c] w fun e w' => ∃ v, e = .returned v ∧ GrownPost O w v w' := by
  have HFIN := Lib.hid hO
  have HW := Lib.hid hw
  have hb0 := hp_new w (.cells (was.map V8).toArray 24) _ rfl
  clear hO hw
  unfold dv
  go_enter Tryd.func75, Tryd.ntmps75
  go_wp2_with fail
  refine abs_w (C := fun W => Code.wp _ _ _ _ W) (fun W => W.heap[w.heap.size]? = some (.cells (was.map V8).toArray 24) ∧ W.heap[w.heap.size + 1]? = some (.cells ((zeros 32).map V8).toArray 24) ∧ W.heap[w.heap.size + 1 + 1]? = some (.cells ((zeros 32).map V8).toArray 24) ∧ Mod [] w W) ⟨hp_old (hp_old hb0), hp_old (hp_new _ _ _ (by simp)), hp_new _ _ _ (by simp), (((Mod.refl [] w).alloc _).alloc _).alloc _⟩ ?_
  rintro W ⟨h0, h1, h2, hm⟩
  have hd0 := hp_drew h0
  have hs1 := storeDv (w := W.drew) was HW.out (hp_drew h1) (by simp [zeros_length])
  have k1 : Mod [w.heap.size + 1] W.drew (W.drew.setRow (w.heap.size + 1) (was.map V8).toArray) := (Mod.refl _ _).setRow (.inl (by simp)) _
  have h01 := k1.get hd0 (by simp)
  have h21 := k1.get (hp_drew h2) (by simp)
  have hl0 := loadDv (w := W.drew) was HW.out hd0
  have hl1 := loadDv was HW.out h01
  have hs2 := storeDv was HW.out h21 (by simp [zeros_length])
  have HR1 := Lib.hid (hp_setRow (cs := (was.map V8).toArray) (hp_drew h1))
  have H21 := Lib.hid h21
  have HM := Lib.hid (((hm.drew).setRow (g := w.heap.size + 1) (.inr (by omega)) (was.map V8).toArray).setRow (g := w.heap.size + 1 + 1) (.inr (by omega)) (was.map V8).toArray)
  clear hb0 h0 h1 h2 hm hd0 k1 h01 h21
  go_region
  go_wp2_with fail
  exact bodyPost_ret (results_dv3 rfl _ _ _ _ _ _ HW.out HW.out _ _ rfl rfl (hp_setRow_ne HR1.out (by omega)) (hp_setRow H21.out)) rfl ⟨_, rfl, was, was, _, rfl, HW.out, HW.out, HFIN.out, HM.out⟩
/-- Two results are stored, one digest twice. -/
theorem store_twice (U : World) (b r1 r2 : Nat) (d : Bs) (hd : d.length = 32) (h0 : U.heap[b]? = some (.cells (d.map V8).toArray 24)) {Z1 Z2 : Array Value} (h1 : U.heap[r1]? = some (.cells Z1 24)) (h2 : U.heap[r2]? = some (.cells Z2 24)) (z1 : Z1.size = 32) (z2 : Z2.size = 32) (n1 : b ≠ r1) (n2 : r1 ≠ r2) :
    (LoadO 24 (.pointer (some ⟨b, 0, none⟩))).run Tryd.prog U.drew = .ok (dv d) U.drew ∧
    (LoadO 24 (.pointer (some ⟨b, 0, none⟩))).run Tryd.prog (U.drew.setRow r1 (d.map V8).toArray) = .ok (dv d) (U.drew.setRow r1 (d.map V8).toArray) ∧
    (StoreO 24 (.pointer (some ⟨r1, 0, none⟩)) (dv d)).run Tryd.prog U.drew = .ok () (U.drew.setRow r1 (d.map V8).toArray) ∧
    (StoreO 24 (.pointer (some ⟨r2, 0, none⟩)) (dv d)).run Tryd.prog (U.drew.setRow r1 (d.map V8).toArray) = .ok () ((U.drew.setRow r1 (d.map V8).toArray).setRow r2 (d.map V8).toArray) ∧
    ((U.drew.setRow r1 (d.map V8).toArray).setRow r2 (d.map V8).toArray).heap[r1]? = some (.cells (d.map V8).toArray 24) ∧ ((U.drew.setRow r1 (d.map V8).toArray).setRow r2 (d.map V8).toArray).heap[r2]? = some (.cells (d.map V8).toArray 24) := by
  have k1 : Mod [r1] U.drew (U.drew.setRow r1 (d.map V8).toArray) := (Mod.refl _ _).setRow (.inl (by simp)) _
  have h21 := k1.get (hp_drew h2) (by simp; omega)
  exact ⟨loadDv (w := U.drew) d hd (hp_drew h0), loadDv d hd (k1.get (hp_drew h0) (by simp; omega)), storeDv (w := U.drew) d hd (hp_drew h1) z1, storeDv d hd h21 z2, hp_setRow_ne (hp_setRow (hp_drew h1)) n2, hp_setRow h21⟩
set_option maxRecDepth 100000 in
theorem grown_none (m n c : Nat) (fb : Bool) (was : Bs) (p : Option Addr) (w : World) (hne : m = n → fb = false) (hw : was.length = 32) :
    Calls Tryd.prog 75 #[.int .i64 m, .int .i64 n, dv was, .bool fb, .slice p 0 c] w fun e w' => ∃ v, e = .returned v ∧ GrownPost none w v w' := by
  have hC := fun W => cut_no p c W
  have hzl := zeros_length 32
  generalize zeros 32 = z at hC hzl
  have HC := Lib.hid hC
  have HZL := Lib.hid hzl
  clear hC hzl hw
  by_cases hmn : m = n
  · subst hmn
    obtain rfl : fb = false := hne rfl
    clear hne
    unfold dv
    go_enter Tryd.func75, Tryd.ntmps75
    go_wp2_with fail
    refine (HC.out _).mono ?_
    rintro e w1 ⟨rfl, m1⟩
    have hS := storeNewD w1 z HZL.out
    have M1 := ((((Mod.refl [] w).alloc (.cells (was.map V8).toArray 24)).alloc _).alloc _).trans0 m1
    have HM := Lib.hid (M1.alloc (.cells (z.map V8).toArray 24))
    have r1 := hp_old (o := .cells (z.map V8).toArray 24) (m1.get0 (hp_old (hp_new _ _ (w.heap.size + 1) (by simp))))
    have r2 := hp_old (o := .cells (z.map V8).toArray 24) (m1.get0 (hp_new _ _ (w.heap.size + 1 + 1) (by simp)))
    have hsz := m1.size
    simp at hsz
    obtain ⟨a1, a2, a3, a4, a5, a6⟩ := store_twice (w1.alloc (.cells (z.map V8).toArray 24)) w1.heap.size (w.heap.size + 1) (w.heap.size + 1 + 1) z HZL.out (hp_new _ _ _ rfl) r1 r2 rfl rfl (by omega) (by omega)
    have H5 := Lib.hid a5
    have H6 := Lib.hid a6
    have HEND := Lib.hid (((HM.out.drew).setRow (g := w.heap.size + 1) (.inr (by omega)) (z.map V8).toArray).setRow (g := w.heap.size + 1 + 1) (.inr (by omega)) (z.map V8).toArray)
    clear m1 M1 r1 r2 a5 a6 hsz
    go_wp2_with fail
    go_region
    go_wp2_with fail
    exact bodyPost_ret (results_dv3 rfl _ _ _ _ _ _ HZL.out HZL.out _ _ rfl rfl H5.out H6.out) rfl ⟨_, rfl, z, z, false, rfl, HZL.out, HZL.out, rfl, HEND.out⟩
  · have e1 : decide ((m : Int) = (n : Int)) = false := by simp; omega
    have e9 : ((m : Int) == (n : Int)) = false := by simp; omega
    have e8 : decide (m = n) = false := by simp; omega
    clear hne hmn
    unfold dv
    go_enter Tryd.func75, Tryd.ntmps75
    go_wp2_with fail
    refine (HC.out _).mono ?_
    rintro e w1 ⟨rfl, m1⟩
    have hS := storeNewD w1 z HZL.out
    have M1 := ((((Mod.refl [] w).alloc (.cells (was.map V8).toArray 24)).alloc _).alloc _).trans0 m1
    have HM := Lib.hid (M1.alloc (.cells (z.map V8).toArray 24))
    have r1 := hp_old (o := .cells (z.map V8).toArray 24) (m1.get0 (hp_old (hp_new _ _ (w.heap.size + 1) (by simp))))
    have r2 := hp_old (o := .cells (z.map V8).toArray 24) (m1.get0 (hp_new _ _ (w.heap.size + 1 + 1) (by simp)))
    have hsz := m1.size
    simp at hsz
    obtain ⟨a1, a2, a3, a4, a5, a6⟩ := store_twice (w1.alloc (.cells (z.map V8).toArray 24)) w1.heap.size (w.heap.size + 1) (w.heap.size + 1 + 1) z HZL.out (hp_new _ _ _ rfl) r1 r2 rfl rfl (by omega) (by omega)
    have H5 := Lib.hid a5
    have H6 := Lib.hid a6
    have HEND := Lib.hid (((HM.out.drew).setRow (g := w.heap.size + 1) (.inr (by omega)) (z.map V8).toArray).setRow (g := w.heap.size + 1 + 1) (.inr (by omega)) (z.map V8).toArray)
    clear m1 M1 r1 r2 a5 a6 hsz
    go_wp2_with fail
    go_region
    go_wp2_with fail
    exact bodyPost_ret (results_dv3 rfl _ _ _ _ _ _ HZL.out HZL.out _ _ rfl rfl H5.out H6.out) rfl ⟨_, rfl, z, z, false, rfl, HZL.out, HZL.out, rfl, HEND.out⟩
end Go.Proofs.YtbbobpjcbnfpfaaDoor
namespace Go.Proofs.YtbbobpjcbnfpfaaDoor
open Go.RowKit
attribute [local go_sem high] one8 st8 cm8 b_and8 b_and8r b_and8l b_or8 b_or8r b_or8l b_xor8 b_xor8r b_xor8l b_andNot8 b_andNot8r b_andNot8l b_add8 b_add8r b_add8l b_sub8 b_sub8r b_sub8l b_mul8 b_mul8r b_mul8l b_eql8 b_eql8r b_eql8l b_neq8 b_neq8r b_neq8l b_lss8 b_lss8r b_lss8l b_leq8 b_leq8r b_leq8l b_gtr8 b_gtr8r b_gtr8l b_geq8 b_geq8r b_geq8l b_quo8r b_rem8r b_shl8r b_shr8r b_shl8l b_shr8l u_xor8 g_eql8 g_neq8 g_eql8' g_neq8' one32 st32 cm32 b_and32 b_and32r b_and32l b_or32 b_or32r b_or32l b_xor32 b_xor32r b_xor32l b_andNot32 b_andNot32r b_andNot32l b_add32 b_add32r b_add32l b_sub32 b_sub32r b_sub32l b_mul32 b_mul32r b_mul32l b_eql32 b_eql32r b_eql32l b_neq32 b_neq32r b_neq32l b_lss32 b_lss32r b_lss32l b_leq32 b_leq32r b_leq32l b_gtr32 b_gtr32r b_gtr32l b_geq32 b_geq32r b_geq32l b_quo32r b_rem32r b_shl32r b_shr32r b_shl32l b_shr32l u_xor32 g_eql32 g_neq32 g_eql32' g_neq32' one64 st64 cm64 b_and64 b_and64r b_and64l b_or64 b_or64r b_or64l b_xor64 b_xor64r b_xor64l b_andNot64 b_andNot64r b_andNot64l b_add64 b_add64r b_add64l b_sub64 b_sub64r b_sub64l b_mul64 b_mul64r b_mul64l b_eql64 b_eql64r b_eql64l b_neq64 b_neq64r b_neq64l b_lss64 b_lss64r b_lss64l b_leq64 b_leq64r b_leq64l b_gtr64 b_gtr64r b_gtr64l b_geq64 b_geq64r b_geq64l b_quo64r b_rem64r b_shl64r b_shr64r b_shl64l b_shr64l u_xor64 g_eql64 g_neq64 g_eql64' g_neq64' c_u8_u8 c_u8_u32 c_u8_u64 c_i_u8 c_u32_u8 c_u32_u32 c_u32_u64 c_i_u32 c_u64_u8 c_u64_u32 c_u64_u64 c_i_u64 c_u8_i c_u32_i
attribute [local go_sem ↓] ce8 ce32 ce64
attribute [local go_sem ↓] sliced_slp loadO26 storeO26 buildO24
set_option maxRecDepth 100000 in
theorem grown_same (m k c : Nat) (was x : Bs) (p : Option Addr) (w : World) (O : Option (Bs × Bs)) (hO : O = (if ((k : Int) == 0) = true then some (x, x) else none)) (hw : was.length = 32) (hx : x.length = 32)
    (hC : ∀ W, Mod [] w W → Calls Tryd.prog 83 #[.slice p (k + 1 : Nat) c] W fun e w' => e = .returned (.tuple #[.slice p k k, dv x, .bool true]) ∧ Mod [] W w') :
    Calls Tryd.prog 75 #[.int .i64 m, .int .i64 m, dv was, .bool false, .slice p (k + 1 : Nat) c] w fun e w' => ∃ v, e = .returned v ∧ GrownPost O w v w' := by
  have HC := Lib.hid hC
  have HFIN := Lib.hid hO
  have HX := Lib.hid hx
  clear hC hO hw hx
  unfold dv
  go_enter Tryd.func75, Tryd.ntmps75
  go_wp2_with fail
  refine (HC.out _ ((((Mod.refl [] w).alloc _).alloc _).alloc _)).mono ?_
  rintro e w1 ⟨rfl, m1⟩
  have hS := storeNewD w1 x HX.out
  have M1 := ((((Mod.refl [] w).alloc (.cells (was.map V8).toArray 24)).alloc _).alloc _).trans0 m1
  have HM := Lib.hid (M1.alloc (.cells (x.map V8).toArray 24))
  have r1 := hp_old (o := .cells (x.map V8).toArray 24) (m1.get0 (hp_old (hp_new _ _ (w.heap.size + 1) (by simp))))
  have r2 := hp_old (o := .cells (x.map V8).toArray 24) (m1.get0 (hp_new _ _ (w.heap.size + 1 + 1) (by simp)))
  have hsz := m1.size
  simp at hsz
  obtain ⟨a1, a2, a3, a4, a5, a6⟩ := store_twice (w1.alloc (.cells (x.map V8).toArray 24)) w1.heap.size (w.heap.size + 1) (w.heap.size + 1 + 1) x HX.out (hp_new _ _ _ rfl) r1 r2 rfl rfl (by omega) (by omega)
  have H5 := Lib.hid a5
  have H6 := Lib.hid a6
  have HEND := Lib.hid (((HM.out.drew).setRow (g := w.heap.size + 1) (.inr (by omega)) (x.map V8).toArray).setRow (g := w.heap.size + 1 + 1) (.inr (by omega)) (x.map V8).toArray)
  clear m1 M1 r1 r2 a5 a6 hsz
  go_wp2_with fail
  go_region
  go_wp2_with fail
  exact bodyPost_ret (results_dv3 rfl _ _ _ _ _ _ HX.out HX.out _ _ rfl rfl H5.out H6.out) rfl ⟨_, rfl, x, x, _, rfl, HX.out, HX.out, HFIN.out, HEND.out⟩
/-- Two results are stored. -/
theorem store_two (U : World) (r1 r2 : Nat) (d e : Bs) (hd : d.length = 32) (he : e.length = 32) {Z1 Z2 : Array Value} (h1 : U.heap[r1]? = some (.cells Z1 24)) (h2 : U.heap[r2]? = some (.cells Z2 24)) (z1 : Z1.size = 32) (z2 : Z2.size = 32) (n2 : r1 ≠ r2) :
    (StoreO 24 (.pointer (some ⟨r1, 0, none⟩)) (dv d)).run Tryd.prog U = .ok () (U.setRow r1 (d.map V8).toArray) ∧
    (StoreO 24 (.pointer (some ⟨r2, 0, none⟩)) (dv e)).run Tryd.prog (U.setRow r1 (d.map V8).toArray) = .ok () ((U.setRow r1 (d.map V8).toArray).setRow r2 (e.map V8).toArray) ∧
    ((U.setRow r1 (d.map V8).toArray).setRow r2 (e.map V8).toArray).heap[r1]? = some (.cells (d.map V8).toArray 24) ∧ ((U.setRow r1 (d.map V8).toArray).setRow r2 (e.map V8).toArray).heap[r2]? = some (.cells (e.map V8).toArray 24) := by
  have k1 : Mod [r1] U (U.setRow r1 (d.map V8).toArray) := (Mod.refl _ _).setRow (.inl (by simp)) _
  have h21 := k1.get h2 (by simp; omega)
  exact ⟨storeDv d hd h1 z1, storeDv e he h21 z2, hp_setRow_ne (hp_setRow h1) n2, hp_setRow h21⟩
/-- Two digests in new variables. -/
theorem two_vars (w3 : World) (a b : Bs) (Z Z2 : Array Value) : ((((w3.alloc (.cells Z 24)).alloc (.cells Z2 24)).setRow w3.heap.size (a.map V8).toArray).setRow (w3.heap.size + 1) (b.map V8).toArray).heap[w3.heap.size]? = some (.cells (a.map V8).toArray 24) ∧
    ((((w3.alloc (.cells Z 24)).alloc (.cells Z2 24)).setRow w3.heap.size (a.map V8).toArray).setRow (w3.heap.size + 1) (b.map V8).toArray).heap[w3.heap.size + 1]? = some (.cells (b.map V8).toArray 24) ∧
    Mod [] w3 ((((w3.alloc (.cells Z 24)).alloc (.cells Z2 24)).setRow w3.heap.size (a.map V8).toArray).setRow (w3.heap.size + 1) (b.map V8).toArray) :=
  ⟨hp_setRow_ne (hp_setRow (hp_old (hp_new w3 _ _ rfl))) (by omega), hp_setRow (hp_setRow_ne (hp_new _ _ (w3.heap.size + 1) (by simp)) (by omega)), ((((Mod.refl [] w3).alloc _).alloc _).setRow (.inr (Nat.le_refl _)) _).setRow (.inr (by omega)) _⟩
set_option maxRecDepth 100000 in
theorem grown_left {hf : Bs → Bs} (m n K k c : Nat) (fb : Bool) (was x : Bs) (p : Option Addr) (w : World) (O : Option (Bs × Bs)) (h1 : 1 < n) (hs : n ≤ 1099511627776) (hK : K = half n) (hmn : m ≠ n) (hmk : m ≤ K) (hw : was.length = 32) (hx : x.length = 32) (H : Hs hf w)
    (hC : ∀ W, Mod [] w W → Calls Tryd.prog 83 #[.slice p (k + 1 : Nat) c] W fun e w' => e = .returned (.tuple #[.slice p k k, dv x, .bool true]) ∧ Mod [] W w')
    (hA : ∀ W, Mod [] w W → Calls Tryd.prog 75 #[.int .i64 m, .int .i64 K, dv was, .bool fb, .slice p k k] W fun e w' => ∃ v, e = .returned v ∧ GrownPost O W v w') :
    Calls Tryd.prog 75 #[.int .i64 m, .int .i64 n, dv was, .bool fb, .slice p (k + 1 : Nat) c] w fun e w' => ∃ v, e = .returned v ∧ GrownPost (O.map (fun b => (b.1, nodeH hf b.2 x))) w v w' := by
  have hkk := fun W => half_any n W (by omega) (by omega)
  rw [← hK] at hkk
  have HK := Lib.hid hkk
  have HA := Lib.hid hA
  have HC := Lib.hid hC
  have HFIN := Lib.hid (fun (a b : Bs) (ok : Bool) (h : O = if ok = true then some (a, b) else none) => show (O.map (fun b => (b.1, nodeH hf b.2 x))) = (if ok = true then some (a, nodeH hf b x) else none) by rw [h]; cases ok <;> rfl)
  generalize O.map (fun b => (b.1, nodeH hf b.2 x)) = OO at HFIN ⊢
  have HX := Lib.hid hx
  have HW := Lib.hid hw
  have HH := Lib.hid H
  have e1 : decide ((m : Int) = (n : Int)) = false := by simp; omega
  have e9 : ((m : Int) == (n : Int)) = false := by simp; omega
  have e8 : decide (m = n) = false := by simp; omega
  have hd : decide ((m : Int) ≤ (K : Int)) = true := by simp; omega
  clear hK hw hx H hC hA hkk hmn
  unfold dv
  go_enter Tryd.func75, Tryd.ntmps75
  go_wp2_with fail
  refine (HC.out _ ((((Mod.refl [] w).alloc _).alloc _).alloc _)).mono ?_
  rintro e w1 ⟨rfl, m1⟩
  have hS := storeNewD w1 x HX.out
  have M1 := Lib.hid (((((Mod.refl [] w).alloc (.cells (was.map V8).toArray 24)).alloc _).alloc _).trans0 m1 |>.alloc (.cells (x.map V8).toArray 24))
  have R1 := Lib.hid (hp_old (o := .cells (x.map V8).toArray 24) (m1.get0 (hp_old (hp_new _ _ (w.heap.size + 1) (by simp)))))
  have R2 := Lib.hid (hp_old (o := .cells (x.map V8).toArray 24) (m1.get0 (hp_new _ _ (w.heap.size + 1 + 1) (by simp))))
  have RX := Lib.hid (hp_new w1 (.cells (x.map V8).toArray 24) _ rfl)
  have hL := loadDv was HW.out (hp_old (o := .cells (x.map V8).toArray 24) (m1.get0 (hp_old (hp_old (hp_new w (.cells (was.map V8).toArray 24) _ rfl)))))
  have hsz := m1.size
  simp at hsz
  clear m1
  go_wp2_with (go_at_call 60; refine (HK.out _).mono ?_; rintro e w2 ⟨rfl, rfl⟩)
  refine (HA.out _ M1.out).mono ?_
  rintro e w3 ⟨_, rfl, a, b, ok, rfl, hal, hbl, hO, m3⟩
  clear hL hS
  have hS1 := fun (Z Z2 : Array Value) (hZ : Z.size = 32) => storeDv (w := (w3.alloc (.cells Z 24)).alloc (.cells Z2 24)) a hal (hp_old (hp_new w3 _ _ rfl)) hZ
  have hS2 := fun (Z Z2 : Array Value) (hZ : Z2.size = 32) => storeDv (w := ((w3.alloc (.cells Z 24)).alloc (.cells Z2 24)).setRow w3.heap.size (a.map V8).toArray) b hbl (hp_setRow_ne (hp_new _ _ (w3.heap.size + 1) (by simp)) (by omega)) hZ
  have HO := Lib.hid hO
  have HAL := Lib.hid hal
  have HBL := Lib.hid hbl
  have M3 := Lib.hid m3
  have hsz3 := m3.size
  simp at hsz3
  clear hO hal hbl m3
  go_wp2_with fail
  refine abs_w (C := fun W => Code.wp _ _ _ _ W) (fun W => W.heap[w3.heap.size]? = some (.cells (a.map V8).toArray 24) ∧ W.heap[w3.heap.size + 1]? = some (.cells (b.map V8).toArray 24) ∧ Mod [] w3 W) (two_vars w3 a b _ _) ?_
  rintro U ⟨ha, hb, hmu⟩
  have hx := (M3.out.trans0 hmu).get0 RX.out
  have hr1 := (M3.out.trans0 hmu).get0 R1.out
  have hr2 := (M3.out.trans0 hmu).get0 R2.out
  have MU := Lib.hid ((M1.out.trans0 M3.out).trans0 hmu)
  obtain ⟨N, hN⟩ : ∃ N, N = nodeH hf b x := ⟨_, rfl⟩
  have HN := Lib.hid (fun (W : World) (k : Mod [] U W) => node_any (hf := hf) b x HBL.out HX.out W (HH.out.mod0 (MU.out.trans0 k)))
  have HLN := Lib.hid (show N.length = 32 from by rw [hN]; exact HH.out.len _)
  have HFN := Lib.hid (HFIN.out a b ok HO.out)
  rw [← hN] at HN HFN
  have l1 := loadDv (w := U.drew) a HAL.out (hp_drew ha)
  have l2 := loadDv (w := U.drew) b HBL.out (hp_drew hb)
  have l3 := loadDv (w := U.drew) x HX.out (hp_drew hx)
  have HA9 := Lib.hid ha
  have HR1 := Lib.hid hr1
  have HR2 := Lib.hid hr2
  have HNW := Lib.hid (fun (W : World) (k : Mod [] U W) => store_two W (w.heap.size + 1) (w.heap.size + 1 + 1) a N HAL.out HLN.out (k.get0 HR1.out) (k.get0 HR2.out) rfl rfl (by omega))
  clear ha hb hmu hx hr1 hr2 hN hS1 hS2
  go_region_law (go_simp; go_at_call 17; with_reducible refine (HN.out _ (Mod.refl [] U).drew).mono ?_
                 rintro _ w4 ⟨rfl, m4⟩
                 have m5 := (Mod.refl [] U).drew.trans0 m4
                 have l4 := loadDv a HAL.out (m5.get0 HA9.out)
                 obtain ⟨b3, b4, b5, b6⟩ := HNW.out w4 m5)
  all_goals
    have H5 := Lib.hid b5
    have H6 := Lib.hid b6
    have HEND := Lib.hid (((MU.out.trans0 m5).setRow (g := w.heap.size + 1) (.inr (by omega)) (a.map V8).toArray).setRow (g := w.heap.size + 1 + 1) (.inr (by omega)) (N.map V8).toArray)
    clear b5 b6 m5 m4
    go_wp2_with fail
    exact bodyPost_ret (results_dv3 rfl _ _ _ _ _ _ HAL.out HLN.out _ _ rfl rfl H5.out H6.out) rfl ⟨_, rfl, a, N, ok, rfl, HAL.out, HLN.out, HFN.out, HEND.out⟩
end Go.Proofs.YtbbobpjcbnfpfaaDoor
namespace Go.Proofs.YtbbobpjcbnfpfaaDoor
open Go.RowKit
attribute [local go_sem high] one8 st8 cm8 b_and8 b_and8r b_and8l b_or8 b_or8r b_or8l b_xor8 b_xor8r b_xor8l b_andNot8 b_andNot8r b_andNot8l b_add8 b_add8r b_add8l b_sub8 b_sub8r b_sub8l b_mul8 b_mul8r b_mul8l b_eql8 b_eql8r b_eql8l b_neq8 b_neq8r b_neq8l b_lss8 b_lss8r b_lss8l b_leq8 b_leq8r b_leq8l b_gtr8 b_gtr8r b_gtr8l b_geq8 b_geq8r b_geq8l b_quo8r b_rem8r b_shl8r b_shr8r b_shl8l b_shr8l u_xor8 g_eql8 g_neq8 g_eql8' g_neq8' one32 st32 cm32 b_and32 b_and32r b_and32l b_or32 b_or32r b_or32l b_xor32 b_xor32r b_xor32l b_andNot32 b_andNot32r b_andNot32l b_add32 b_add32r b_add32l b_sub32 b_sub32r b_sub32l b_mul32 b_mul32r b_mul32l b_eql32 b_eql32r b_eql32l b_neq32 b_neq32r b_neq32l b_lss32 b_lss32r b_lss32l b_leq32 b_leq32r b_leq32l b_gtr32 b_gtr32r b_gtr32l b_geq32 b_geq32r b_geq32l b_quo32r b_rem32r b_shl32r b_shr32r b_shl32l b_shr32l u_xor32 g_eql32 g_neq32 g_eql32' g_neq32' one64 st64 cm64 b_and64 b_and64r b_and64l b_or64 b_or64r b_or64l b_xor64 b_xor64r b_xor64l b_andNot64 b_andNot64r b_andNot64l b_add64 b_add64r b_add64l b_sub64 b_sub64r b_sub64l b_mul64 b_mul64r b_mul64l b_eql64 b_eql64r b_eql64l b_neq64 b_neq64r b_neq64l b_lss64 b_lss64r b_lss64l b_leq64 b_leq64r b_leq64l b_gtr64 b_gtr64r b_gtr64l b_geq64 b_geq64r b_geq64l b_quo64r b_rem64r b_shl64r b_shr64r b_shl64l b_shr64l u_xor64 g_eql64 g_neq64 g_eql64' g_neq64' c_u8_u8 c_u8_u32 c_u8_u64 c_i_u8 c_u32_u8 c_u32_u32 c_u32_u64 c_i_u32 c_u64_u8 c_u64_u32 c_u64_u64 c_i_u64 c_u8_i c_u32_i
attribute [local go_sem ↓] ce8 ce32 ce64
attribute [local go_sem ↓] sliced_slp loadO26 storeO26 buildO24
/-- A type whose rows are read as one. -/
def IsDg (t : TypeId) : Prop := t = 24
theorem loadO_dg (t : TypeId) (p : Value) (_ : IsDg t) : Instr.loadAt t p = LoadO t p := rfl
theorem storeO_dg (t : TypeId) (p v : Value) (_ : IsDg t) : Instr.storeAt t p v = StoreO t p v := rfl
attribute [local go_sem ↓] loadO_dg storeO_dg
set_option maxRecDepth 100000 in
set_option maxHeartbeats 2000000 in
theorem grown_right {hf : Bs → Bs} (m n K k c : Nat) (fb : Bool) (was x : Bs) (p : Option Addr) (w : World) (O : Option (Bs × Bs)) (h1 : 1 < n) (hml : m ≤ n) (hs : n ≤ 1099511627776) (hK : K = half n) (hmn : m ≠ n) (hmk : ¬ m ≤ K) (hw : was.length = 32) (hx : x.length = 32) (H : Hs hf w)
    (hC : ∀ W, Mod [] w W → Calls Tryd.prog 83 #[.slice p (k + 1 : Nat) c] W fun e w' => e = .returned (.tuple #[.slice p k k, dv x, .bool true]) ∧ Mod [] W w')
    (hA : ∀ W, Mod [] w W → Calls Tryd.prog 75 #[.int .i64 (m - K : Nat), .int .i64 (n - K : Nat), dv was, .bool false, .slice p k k] W fun e w' => ∃ v, e = .returned v ∧ GrownPost O W v w') :
    Calls Tryd.prog 75 #[.int .i64 m, .int .i64 n, dv was, .bool fb, .slice p (k + 1 : Nat) c] w fun e w' => ∃ v, e = .returned v ∧ GrownPost (O.map (fun b => (nodeH hf x b.1, nodeH hf x b.2))) w v w' := by
  have hkk := fun W => half_any n W (by omega) (by omega)
  rw [← hK] at hkk
  have HK := Lib.hid hkk
  have HA := Lib.hid hA
  have HC := Lib.hid hC
  have HFIN := Lib.hid (fun (a b : Bs) (ok : Bool) (h : O = if ok = true then some (a, b) else none) => show (O.map (fun b => (nodeH hf x b.1, nodeH hf x b.2))) = (if ok = true then some (nodeH hf x a, nodeH hf x b) else none) by rw [h]; cases ok <;> rfl)
  generalize O.map (fun b => (nodeH hf x b.1, nodeH hf x b.2)) = OO at HFIN ⊢
  have HX := Lib.hid hx
  have HW := Lib.hid hw
  have HH := Lib.hid H
  have e1 : decide ((m : Int) = (n : Int)) = false := by simp; omega
  have e9 : ((m : Int) == (n : Int)) = false := by simp; omega
  have e8 : decide (m = n) = false := by simp; omega
  have hd : decide ((m : Int) ≤ (K : Int)) = false := by simp; omega
  have hK1 : K < n := by rw [hK]; exact half_lt n (by omega)
  have g1 : (m : Int) - (K : Int) = ((m - K : Nat) : Int) := by omega
  have g2 : (n : Int) - (K : Int) = ((n - K : Nat) : Int) := by omega
  clear hK hw hx H hC hA hkk hmn
  unfold dv
  go_enter Tryd.func75, Tryd.ntmps75
  go_wp2_with fail
  refine (HC.out _ ((((Mod.refl [] w).alloc _).alloc _).alloc _)).mono ?_
  rintro e w1 ⟨rfl, m1⟩
  have hS := storeNewD w1 x HX.out
  have M1 := Lib.hid (((((Mod.refl [] w).alloc (.cells (was.map V8).toArray 24)).alloc _).alloc _).trans0 m1 |>.alloc (.cells (x.map V8).toArray 24))
  have R1 := Lib.hid (hp_old (o := .cells (x.map V8).toArray 24) (m1.get0 (hp_old (hp_new _ _ (w.heap.size + 1) (by simp)))))
  have R2 := Lib.hid (hp_old (o := .cells (x.map V8).toArray 24) (m1.get0 (hp_new _ _ (w.heap.size + 1 + 1) (by simp))))
  have RX := Lib.hid (hp_new w1 (.cells (x.map V8).toArray 24) _ rfl)
  have hL := loadDv was HW.out (hp_old (o := .cells (x.map V8).toArray 24) (m1.get0 (hp_old (hp_old (hp_new w (.cells (was.map V8).toArray 24) _ rfl)))))
  have hsz := m1.size
  simp at hsz
  clear m1
  go_wp2_with (go_at_call 60; refine (HK.out _).mono ?_; rintro e w2 ⟨rfl, rfl⟩)
  refine (HA.out _ M1.out).mono ?_
  rintro e w3 ⟨_, rfl, a, b, ok, rfl, hal, hbl, hO, m3⟩
  clear hL hS
  have hS1 := fun (Z Z2 : Array Value) (hZ : Z.size = 32) => storeDv (w := (w3.alloc (.cells Z 24)).alloc (.cells Z2 24)) a hal (hp_old (hp_new w3 _ _ rfl)) hZ
  have hS2 := fun (Z Z2 : Array Value) (hZ : Z2.size = 32) => storeDv (w := ((w3.alloc (.cells Z 24)).alloc (.cells Z2 24)).setRow w3.heap.size (a.map V8).toArray) b hbl (hp_setRow_ne (hp_new _ _ (w3.heap.size + 1) (by simp)) (by omega)) hZ
  have HO := Lib.hid hO
  have HAL := Lib.hid hal
  have HBL := Lib.hid hbl
  have M3 := Lib.hid m3
  have hsz3 := m3.size
  simp at hsz3
  clear hO hal hbl m3
  go_wp2_with fail
  refine abs_w (C := fun W => Code.wp _ _ _ _ W) (fun W => W.heap[w3.heap.size]? = some (.cells (a.map V8).toArray 24) ∧ W.heap[w3.heap.size + 1]? = some (.cells (b.map V8).toArray 24) ∧ Mod [] w3 W) (two_vars w3 a b _ _) ?_
  rintro U ⟨ha, hb, hmu⟩
  have hx := (M3.out.trans0 hmu).get0 RX.out
  have hr1 := (M3.out.trans0 hmu).get0 R1.out
  have hr2 := (M3.out.trans0 hmu).get0 R2.out
  have MU := Lib.hid ((M1.out.trans0 M3.out).trans0 hmu)
  obtain ⟨N, hN⟩ : ∃ N, N = nodeH hf x a := ⟨_, rfl⟩
  obtain ⟨N2, hN2⟩ : ∃ N2, N2 = nodeH hf x b := ⟨_, rfl⟩
  have HN := Lib.hid (fun (W : World) (k : Mod [] U W) => node_any (hf := hf) x a HX.out HAL.out W (HH.out.mod0 (MU.out.trans0 k)))
  have HN2 := Lib.hid (fun (W : World) (k : Mod [] U W) => node_any (hf := hf) x b HX.out HBL.out W (HH.out.mod0 (MU.out.trans0 k)))
  have HLN := Lib.hid (show N.length = 32 from by rw [hN]; exact HH.out.len _)
  have HLN2 := Lib.hid (show N2.length = 32 from by rw [hN2]; exact HH.out.len _)
  have HFN := Lib.hid (HFIN.out a b ok HO.out)
  rw [← hN] at HN
  rw [← hN2] at HN2
  rw [← hN, ← hN2] at HFN
  have g14 : w1.heap.size ∉ [w.heap.size + 1, w.heap.size + 1 + 1] := by simp; omega
  have g20 : w3.heap.size ∉ [w.heap.size + 1, w.heap.size + 1 + 1] := by simp; omega
  have g21 : w3.heap.size + 1 ∉ [w.heap.size + 1, w.heap.size + 1 + 1] := by simp; omega
  have q1 : w.heap.size + 1 ∈ [w.heap.size + 1, w.heap.size + 1 + 1] := by simp
  have q2 : w.heap.size + 1 + 1 ∈ [w.heap.size + 1, w.heap.size + 1 + 1] := by simp
  have HLD := Lib.hid (fun (W : World) (k : Mod [w.heap.size + 1, w.heap.size + 1 + 1] U W) => And.intro (loadDv x HX.out (k.get hx g14)) (And.intro (loadDv a HAL.out (k.get ha g20)) (loadDv b HBL.out (k.get hb g21))))
  have HNW := Lib.hid (fun (W : World) (k : Mod [] U W) => store_two W (w.heap.size + 1) (w.heap.size + 1 + 1) N N2 HLN.out HLN2.out (k.get0 hr1) (k.get0 hr2) rfl rfl (by omega))
  have HZ := Lib.hid (fun (W : World) (k : Mod [] U W) => k.mono (S' := [w.heap.size + 1, w.heap.size + 1 + 1]) (fun _ h => by cases h))
  have h0 : Mod [] U U.drew := (Mod.refl [] U).drew
  obtain ⟨T, hT⟩ : ∃ T, T = 24 := ⟨_, rfl⟩
  have hlong : IsDg T := hT
  rw [← hT] at HLD HNW ⊢
  have HT := Lib.hid hT
  clear ha hb hmu hx hr1 hr2 hN hN2 hS1 hS2 hT
  go_region_held3 (fun W' => (LoadO T (.pointer (some ⟨w1.heap.size, 0, none⟩))).run Tryd.prog W' = .ok (dv x) W' ∧ (LoadO T (.pointer (some ⟨w3.heap.size, 0, none⟩))).run Tryd.prog W' = .ok (dv a) W' ∧ (LoadO T (.pointer (some ⟨w3.heap.size + 1, 0, none⟩))).run Tryd.prog W' = .ok (dv b) W' ∧ Mod [w.heap.size + 1, w.heap.size + 1 + 1] U W')
    (first
      | exact ⟨(HLD.out _ (HZ.out _ h0)).1, (HLD.out _ (HZ.out _ h0)).2.1, (HLD.out _ (HZ.out _ h0)).2.2, HZ.out _ h0⟩
      | exact ⟨by assumption, by assumption, by assumption, by assumption⟩)
    (first
      | (go_at_call 17
         with_reducible refine (HN.out _ h0).mono ?_
         rintro e w4 ⟨rfl, m4⟩
         have m5 : Mod [] U w4 := h0.trans0 m4
         have m5' := HZ.out _ m5
         obtain ⟨c1, c2, c3⟩ := HLD.out _ m5')
      | (go_at_call 17
         with_reducible refine (HN2.out _ m5).mono ?_
         rintro e w5 ⟨rfl, m6⟩
         have m7 : Mod [] U w5 := m5.trans0 m6
         obtain ⟨b3, b4, b5, b6⟩ := HNW.out _ m7
         have m7' := HZ.out _ m7
         have s1 := m7'.setRow (.inl q1) (N.map V8).toArray
         have s2 := s1.setRow (.inl q2) (N2.map V8).toArray
         obtain ⟨d1, d2, d3⟩ := HLD.out _ m7'
         obtain ⟨d4, d5, d6⟩ := HLD.out _ s1
         obtain ⟨d7, d8, d9⟩ := HLD.out _ s2))
  all_goals
    rw [HT.out] at b5 b6
    have H5 := Lib.hid b5
    have H6 := Lib.hid b6
    have HEND := Lib.hid (((MU.out.trans0 m7).setRow (g := w.heap.size + 1) (.inr (by omega)) (N.map V8).toArray).setRow (g := w.heap.size + 1 + 1) (.inr (by omega)) (N2.map V8).toArray)
    clear b3 b4 b5 b6 s1 s2 d1 d2 d3 d4 d5 d6 d7 d8 d9 m4 m5 m6 m7 m7' c1 c2 c3
    go_wp2_with fail
    exact bodyPost_ret (results_dv3 rfl _ _ _ _ _ _ HLN.out HLN2.out _ _ rfl rfl H5.out H6.out) rfl ⟨_, rfl, N, N2, ok, rfl, HLN.out, HLN2.out, HFN.out, HEND.out⟩
end Go.Proofs.YtbbobpjcbnfpfaaDoor
namespace Go.Proofs.YtbbobpjcbnfpfaaDoor
open Go.RowKit
theorem grown_any {hf : Bs → Bs} (N : Nat) : ∀ (m n : Nat) (was : Bs) (fb : Bool) (path : List Bs) (p : Option Addr) (c k : Nat) (w : World), n ≤ N → 1 ≤ m → m ≤ n → n ≤ 1099511627776 → was.length = 32 → All32 path → k = path.length → k ≤ 4294967296 → RdD w p c path → Hs hf w →
    Calls Tryd.prog 75 #[.int .i64 m, .int .i64 n, dv was, .bool fb, .slice p k c] w fun e w' => ∃ v, e = .returned v ∧ GrownPost (grownH hf m n was fb path) w v w' := by
  induction N with
  | zero => intro m n was fb path p c k w h0 h1 h2; omega
  | succ N ih =>
    intro m n was fb path p c k w hN h1 hmn hs hw ap hk hk4 hr H
    by_cases h0 : n ≤ N
    · exact ih m n was fb path p c k w h0 h1 hmn hs hw ap hk hk4 hr H
    rw [grownH]
    have hcut : ∀ (q : List Bs) (x : Bs) (j : Nat), path = q ++ [x] → k = j + 1 → x.length = 32 ∧ j = q.length ∧ All32 q ∧ (∀ W, Mod [] w W → RdD W p j q) ∧ (∀ W, Mod [] w W → Calls Tryd.prog 83 #[.slice p (j + 1 : Nat) c] W fun e w' => e = .returned (.tuple #[.slice p j j, dv x, .bool true]) ∧ Mod [] W w') := by
      rintro q x j rfl rfl
      have hj : j = q.length := by simp at hk; omega
      have hx : x.length = 32 := ap x (by simp)
      have hr' : RdD w p j q := by
        have h := (hr.take q.length).shrink j (by simp; omega)
        rwa [List.take_left' rfl] at h
      exact ⟨hx, hj, fun y hy => ap y (by simp [hy]), fun W m' => hr'.mod0 m', fun W m' => cut_yes p c j q x W hj (hr.mod0 m') hx (by omega)⟩
    by_cases hb : n ≤ 1 ∨ m = n
    · obtain rfl : m = n := by omega
      rw [if_pos hb]
      cases fb
      · rw [if_neg (by simp)]
        by_cases hp : path = []
        · subst hp
          obtain rfl : k = 0 := by simpa using hk
          rw [if_neg (by simp)]
          exact grown_none m m c false was p w (fun _ => rfl) hw
        · obtain ⟨q, x, hq⟩ : ∃ q x, path = q ++ [x] := ⟨path.dropLast, path.getLast hp, (List.dropLast_concat_getLast hp).symm⟩
          obtain ⟨j, hj⟩ : ∃ j, k = j + 1 := ⟨q.length, by rw [hk, hq]; simp⟩
          obtain ⟨hx, hjq, aq, hrq, hC⟩ := hcut q x j hq hj
          subst hj
          refine grown_same m j c was x p w _ ?_ hw hx hC
          subst hq
          rw [List.getLast?_concat, Option.getD_some]
          have hlen : (q ++ [x]).length = j + 1 := by rw [List.length_append, hjq]; rfl
          by_cases hj0 : j = 0
          · rw [if_pos (by rw [hlen, hj0]), if_pos (by simp [hj0])]
          · rw [if_neg (by rw [hlen]; omega), if_neg (by simp; omega)]
      · rw [if_pos rfl]
        refine grown_first m c k was p w _ ?_ hw
        by_cases hp : path = []
        · subst hp; simp [hk]
        · have : 0 < path.length := List.length_pos_iff.2 hp
          rw [if_neg hp, if_neg (by simp; omega)]
    · rw [if_neg hb]
      by_cases hp : path = []
      · subst hp
        rw [if_pos rfl]
        obtain rfl : k = 0 := by simpa using hk
        exact grown_none m n c fb was p w (fun h => absurd (Or.inr h) hb) hw
      · rw [if_neg hp]
        obtain ⟨q, x, hq⟩ : ∃ q x, path = q ++ [x] := ⟨path.dropLast, path.getLast hp, (List.dropLast_concat_getLast hp).symm⟩
        obtain ⟨j, hj⟩ : ∃ j, k = j + 1 := ⟨q.length, by rw [hk, hq]; simp⟩
        obtain ⟨hx, hjq, aq, hrq, hC⟩ := hcut q x j hq hj
        subst hj hq
        rw [List.dropLast_concat, List.getLast?_concat, Option.getD_some]
        have hK0 := half_pos n
        have hK1 := half_lt n (by omega)
        by_cases hmk : m ≤ half n
        · rw [if_pos hmk]
          exact grown_left m n (half n) j c fb was x p w _ (by omega) hs rfl (by omega) hmk hw hx H hC (fun W m' => ih m (half n) was fb q p j j W (by omega) h1 hmk (by omega) hw aq hjq (by omega) (hrq W m') (H.mod0 m'))
        · rw [if_neg hmk]
          exact grown_right m n (half n) j c fb was x p w _ (by omega) hmn hs rfl (by omega) hmk hw hx H hC (fun W m' => ih (m - half n) (n - half n) was false q p j j W (by omega) (by omega) (by omega) (by omega) hw aq hjq (by omega) (hrq W m') (H.mod0 m'))
end Go.Proofs.YtbbobpjcbnfpfaaDoor
