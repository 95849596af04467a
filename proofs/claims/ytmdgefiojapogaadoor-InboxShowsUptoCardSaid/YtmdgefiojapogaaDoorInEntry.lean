/- Entry of a box. No condition. -/
import Derived.Test.YtmdgefiojapogaaDoorInBox
namespace Go.Proofs.YtmdgefiojapogaaDoor
open Go.RowKit
attribute [local go_sem high] one8 st8 cm8 b_and8 b_and8r b_and8l b_or8 b_or8r b_or8l b_xor8 b_xor8r b_xor8l b_andNot8 b_andNot8r b_andNot8l b_add8 b_add8r b_add8l b_sub8 b_sub8r b_sub8l b_mul8 b_mul8r b_mul8l b_eql8 b_eql8r b_eql8l b_neq8 b_neq8r b_neq8l b_lss8 b_lss8r b_lss8l b_leq8 b_leq8r b_leq8l b_gtr8 b_gtr8r b_gtr8l b_geq8 b_geq8r b_geq8l b_quo8r b_rem8r b_shl8r b_shr8r b_shl8l b_shr8l u_xor8 g_eql8 g_neq8 g_eql8' g_neq8' one32 st32 cm32 b_and32 b_and32r b_and32l b_or32 b_or32r b_or32l b_xor32 b_xor32r b_xor32l b_andNot32 b_andNot32r b_andNot32l b_add32 b_add32r b_add32l b_sub32 b_sub32r b_sub32l b_mul32 b_mul32r b_mul32l b_eql32 b_eql32r b_eql32l b_neq32 b_neq32r b_neq32l b_lss32 b_lss32r b_lss32l b_leq32 b_leq32r b_leq32l b_gtr32 b_gtr32r b_gtr32l b_geq32 b_geq32r b_geq32l b_quo32r b_rem32r b_shl32r b_shr32r b_shl32l b_shr32l u_xor32 g_eql32 g_neq32 g_eql32' g_neq32' one64 st64 cm64 b_and64 b_and64r b_and64l b_or64 b_or64r b_or64l b_xor64 b_xor64r b_xor64l b_andNot64 b_andNot64r b_andNot64l b_add64 b_add64r b_add64l b_sub64 b_sub64r b_sub64l b_mul64 b_mul64r b_mul64l b_eql64 b_eql64r b_eql64l b_neq64 b_neq64r b_neq64l b_lss64 b_lss64r b_lss64l b_leq64 b_leq64r b_leq64l b_gtr64 b_gtr64r b_gtr64l b_geq64 b_geq64r b_geq64l b_quo64r b_rem64r b_shl64r b_shr64r b_shl64l b_shr64l u_xor64 g_eql64 g_neq64 g_eql64' g_neq64' c_u8_u8 c_u8_u32 c_u8_u64 c_i_u8 c_u32_u8 c_u32_u32 c_u32_u64 c_i_u32 c_u64_u8 c_u64_u32 c_u64_u64 c_i_u64 c_u8_i c_u32_i
attribute [local go_sem ↓] ce8 ce32 ce64
theorem buildZEn (parts : Array (Nat × Value)) : Instr.build 35 parts = BuildZ 35 parts := rfl
attribute [local go_sem ↓] sliced_slp loadO26 storeO26 loadOEn storeOEn buildZDg buildZEn
def zeroEn : En := ⟨0, zeros 20, 0, 0, zeros 20, [0, 0, 0, 0], 0, ⟨none, 0, []⟩⟩
theorem zeroEn_ln : zeroEn.Ln := ⟨zeros_length 20, zeros_length 20, rfl⟩
theorem builtEn : Tryd.prog.built 35 [] = some (zeroEn.cells.toArray) := by kernel_rfl
theorem storeNewEn (w : World) (x : En) (hl : x.Ln) : (StoreO 35 (.pointer (some ⟨w.heap.size, 0, none⟩)) (.agg x.cells.toArray)).run Tryd.prog (w.alloc (.cells #[.int .i64 0, .int .u8 0, .int .u8 0, .int .u8 0, .int .u8 0, .int .u8 0, .int .u8 0, .int .u8 0, .int .u8 0, .int .u8 0, .int .u8 0, .int .u8 0, .int .u8 0, .int .u8 0, .int .u8 0, .int .u8 0, .int .u8 0, .int .u8 0, .int .u8 0, .int .u8 0, .int .u8 0, .int .i64 0, .int .i64 0, .int .u8 0, .int .u8 0, .int .u8 0, .int .u8 0, .int .u8 0, .int .u8 0, .int .u8 0, .int .u8 0, .int .u8 0, .int .u8 0, .int .u8 0, .int .u8 0, .int .u8 0, .int .u8 0, .int .u8 0, .int .u8 0, .int .u8 0, .int .u8 0, .int .u8 0, .int .u8 0, .int .u64 0, .int .u64 0, .int .u64 0, .int .u64 0, .int .i64 0, .slice none 0 0] 35)) = .ok () (w.alloc (.cells x.cells.toArray 35)) := by
  have h := storeEn (w := w.alloc (.cells #[.int .i64 0, .int .u8 0, .int .u8 0, .int .u8 0, .int .u8 0, .int .u8 0, .int .u8 0, .int .u8 0, .int .u8 0, .int .u8 0, .int .u8 0, .int .u8 0, .int .u8 0, .int .u8 0, .int .u8 0, .int .u8 0, .int .u8 0, .int .u8 0, .int .u8 0, .int .u8 0, .int .u8 0, .int .i64 0, .int .i64 0, .int .u8 0, .int .u8 0, .int .u8 0, .int .u8 0, .int .u8 0, .int .u8 0, .int .u8 0, .int .u8 0, .int .u8 0, .int .u8 0, .int .u8 0, .int .u8 0, .int .u8 0, .int .u8 0, .int .u8 0, .int .u8 0, .int .u8 0, .int .u8 0, .int .u8 0, .int .u8 0, .int .u64 0, .int .u64 0, .int .u64 0, .int .u64 0, .int .i64 0, .slice none 0 0] 35)) x hl (hp_new w _ _ rfl) rfl
  rw [setRow_alloc_at _ _ _ _ _ rfl] at h
  exact h
theorem own_rd {w : World} {B : Nat} {y : SlR} (h : Own w B y.v y.d) : Rd V8 w y.p y.cap y.d := by
  obtain ⟨p, c, hv, hrd, _⟩ := h.rd
  unfold SlR.v at hv
  injection hv with h1 _ h2
  rw [h1, h2]
  exact hrd
/-- What Entry hands back. -/
def EntryPost (es : List Ev) (n : Int) (w : World) (e : Ending) (w' : World) : Prop :=
  ∃ x' : En, x'.Ln ∧ e = .returned (.tuple #[.agg x'.cells.toArray, .int .i64 (if 0 ≤ n ∧ n < es.length then 0 else 151)]) ∧
    (if 0 ≤ n ∧ n < es.length then ∃ x y, es[n.toNat]? = some x ∧ y.d = x.1.body.d ∧ x' = x.1.wb y ∧ Own w' w.heap.size y.v x.1.body.d else x' = zeroEn) ∧ Mod [] w w'
set_option maxRecDepth 100000 in
theorem entry_any (B g : Nat) (ve vl : Value) (es : List Ev) (ks : List Bs) (w : World) (h : IsBox w B g ve vl es ks) (n : Int) :
    Calls Tryd.prog 24 #[.pointer (some ⟨g, 0, none⟩), .int .i64 n] w (EntryPost es n w) := by
  obtain ⟨pe, ce, rfl, hre, _⟩ := h.own.rd
  have c0 := (h.mod0 ((Mod.refl [] w).alloc (.cells #[.int .i64 0, .int .u8 0, .int .u8 0, .int .u8 0, .int .u8 0, .int .u8 0, .int .u8 0, .int .u8 0, .int .u8 0, .int .u8 0, .int .u8 0, .int .u8 0, .int .u8 0, .int .u8 0, .int .u8 0, .int .u8 0, .int .u8 0, .int .u8 0, .int .u8 0, .int .u8 0, .int .u8 0, .int .i64 0, .int .i64 0, .int .u8 0, .int .u8 0, .int .u8 0, .int .u8 0, .int .u8 0, .int .u8 0, .int .u8 0, .int .u8 0, .int .u8 0, .int .u8 0, .int .u8 0, .int .u8 0, .int .u8 0, .int .u8 0, .int .u8 0, .int .u8 0, .int .u8 0, .int .u8 0, .int .u8 0, .int .u8 0, .int .u64 0, .int .u64 0, .int .u64 0, .int .u64 0, .int .i64 0, .slice none 0 0] 35))).c0
  have hsm := h.small
  by_cases h0 : 0 ≤ n ∧ n < es.length
  · obtain ⟨m, hm⟩ : ∃ m : Nat, n = (m : Int) := ⟨n.toNat, by omega⟩
    subst hm
    have hml : m < es.length := by omega
    obtain ⟨x, hx⟩ : ∃ x, es[m]? = some x := ⟨_, List.getElem?_eq_getElem hml⟩
    have hbd := h.body x (List.mem_of_getElem? hx)
    obtain ⟨b, o, rfl, hrg⟩ := hre.elem evc_len m x hx
    have hL := (enAt x.2 (range_mod ((Mod.refl [] w).alloc (.cells #[.int .i64 0, .int .u8 0, .int .u8 0, .int .u8 0, .int .u8 0, .int .u8 0, .int .u8 0, .int .u8 0, .int .u8 0, .int .u8 0, .int .u8 0, .int .u8 0, .int .u8 0, .int .u8 0, .int .u8 0, .int .u8 0, .int .u8 0, .int .u8 0, .int .u8 0, .int .u8 0, .int .u8 0, .int .i64 0, .int .i64 0, .int .u8 0, .int .u8 0, .int .u8 0, .int .u8 0, .int .u8 0, .int .u8 0, .int .u8 0, .int .u8 0, .int .u8 0, .int .u8 0, .int .u8 0, .int .u8 0, .int .u8 0, .int .u8 0, .int .u8 0, .int .u8 0, .int .u8 0, .int .u8 0, .int .u8 0, .int .u8 0, .int .u64 0, .int .u64 0, .int .u64 0, .int .u64 0, .int .i64 0, .slice none 0 0] 35)) hrg (by simp))).ln
    have HOW := Lib.hid (fun (V : World) (m : Mod [] w V) => own_any x.1 V x.2 ((own_rd hbd.1).mod0 m) hbd.2)
    have HX := Lib.hid hx
    have f0 : decide ((m : Int) < 0) = false := by simp
    have f1 : decide ((es.length : Int) ≤ (m : Int)) = false := by simp; omega
    have f2 : (0 : Int) ≤ (m : Int) := by omega
    have f3 : (m : Int) < (es.length : Int) := by omega
    have HML := Lib.hid h0
    obtain ⟨l, hl⟩ : ∃ l, l = es.length := ⟨_, rfl⟩
    rw [← hl] at c0 f1 f3 hsm
    obtain ⟨xs, hxs⟩ : ∃ xs, xs = x.1.cells.toArray := ⟨_, rfl⟩
    rw [← hxs] at hL HOW
    have hle : m ≤ 1048576 := by omega
    clear hl hxs hx hbd hre hrg h h0 hml
    go_enter Tryd.func24, Tryd.ntmps24
    go_wp2_with fail
    refine (HOW.out _ ((Mod.refl [] w).alloc _)).mono ?_
    rintro e w1 ⟨y, hyd, rfl, ho, m1⟩
    have hb1 : ∃ C1 : Array Value, C1.size = 49 ∧ w1.heap[w.heap.size]? = some (.cells C1 35 (0, 0)) := ⟨_, by rfl, m1.get0 (hp_new w _ _ rfl)⟩
    obtain ⟨C1, hC1, hb1⟩ := hb1
    have hS := storeEn (x.1.wb y) (x.2.wb y) hb1 hC1
    have HR := Lib.hid (hp_setRow (cs := (x.1.wb y).cells.toArray) hb1)
    have HO := Lib.hid ((ho.mono (B' := w.heap.size) (by rw [alloc_hs]; exact Nat.le_succ _)).mod ((Mod.refl [w.heap.size] w1).setRow (g := w.heap.size) (.inl (by simp)) (x.1.wb y).cells.toArray) (fun z hz hzb => by
      have h1 := ho.row z hzb
      rw [List.mem_singleton] at hz
      rw [alloc_hs] at h1
      omega))
    have HM := Lib.hid ((((Mod.refl [] w).alloc _).trans0 m1).setRow (g := w.heap.size) (.inr (Nat.le_refl _)) (x.1.wb y).cells.toArray)
    have HY := Lib.hid hyd
    clear m1 ho hb1 hC1 hL hyd
    obtain ⟨ys, hys⟩ : ∃ ys, ys = (x.1.wb y).cells.toArray := ⟨_, rfl⟩
    rw [← hys] at hS HR HO HM ⊢
    have HYS := Lib.hid hys
    clear hys
    go_wp2_with fail
    refine bodyPost_ret (results_en2 rfl _ _ _ (x.1.wb y) (x.2.wb y) _ rfl (by rw [← HYS.out]; exact HR.out)) rfl ⟨x.1.wb y, x.2.wb y, ?_, ?_, HM.out⟩
    · rw [if_pos HML.out]; rfl
    · rw [if_pos HML.out]; exact ⟨x, y, HX.out, HY.out, rfl, HO.out⟩
  · have bz : ∀ w, (BuildZ 35 #[]).run Tryd.prog w = .ok (.agg zeroEn.cells.toArray) w := fun w => run_buildZ w 35 #[] _ builtEn
    have hS := storeNewEn w zeroEn zeroEn_ln
    obtain ⟨Z, hZ⟩ : ∃ Z : Array Value, Z = zeroEn.cells.toArray := ⟨_, rfl⟩
    rw [← hZ] at bz hS
    have HZ := Lib.hid hZ
    have HN := Lib.hid h0
    obtain ⟨l, hl⟩ : ∃ l, l = es.length := ⟨_, rfl⟩
    rw [← hl] at c0 hsm h0
    by_cases h1 : n < 0
    · have d0 : decide (n < 0) = true := by simpa using h1
      clear hZ hl h hre h0 h1
      go_enter Tryd.func24, Tryd.ntmps24
      go_wp2_with fail
      exact bodyPost_ret (results_en2 rfl _ _ _ zeroEn zeroEn_ln _ rfl (by rw [HZ.out]; exact hp_new w _ _ rfl)) rfl ⟨zeroEn, zeroEn_ln, by rw [if_neg HN.out]; rfl, by rw [if_neg HN.out], (Mod.refl [] w).alloc _⟩
    · have d0 : decide (n < 0) = false := by simpa using h1
      have d1 : decide ((l : Int) ≤ n) = true := by simp; omega
      clear hZ hl h hre h0 h1
      go_enter Tryd.func24, Tryd.ntmps24
      go_wp2_with fail
      exact bodyPost_ret (results_en2 rfl _ _ _ zeroEn zeroEn_ln _ rfl (by rw [HZ.out]; exact hp_new w _ _ rfl)) rfl ⟨zeroEn, zeroEn_ln, by rw [if_neg HN.out]; rfl, by rw [if_neg HN.out], (Mod.refl [] w).alloc _⟩
end Go.Proofs.YtmdgefiojapogaaDoor
