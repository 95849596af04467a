/- Find, Before, Hold, Release of a ladder. Condition: at most 2^20 pending ones. -/
import Derived.Test.YtmjdfglidfdkaaaLdPostY
namespace Go.Proofs.Ytmjdfglidfdkaaa
open Go.RowKit
attribute [local go_sem high] one8 st8 cm8 b_and8 b_and8r b_and8l b_or8 b_or8r b_or8l b_xor8 b_xor8r b_xor8l b_andNot8 b_andNot8r b_andNot8l b_add8 b_add8r b_add8l b_sub8 b_sub8r b_sub8l b_mul8 b_mul8r b_mul8l b_eql8 b_eql8r b_eql8l b_neq8 b_neq8r b_neq8l b_lss8 b_lss8r b_lss8l b_leq8 b_leq8r b_leq8l b_gtr8 b_gtr8r b_gtr8l b_geq8 b_geq8r b_geq8l b_quo8r b_rem8r b_shl8r b_shr8r b_shl8l b_shr8l u_xor8 g_eql8 g_neq8 g_eql8' g_neq8' one32 st32 cm32 b_and32 b_and32r b_and32l b_or32 b_or32r b_or32l b_xor32 b_xor32r b_xor32l b_andNot32 b_andNot32r b_andNot32l b_add32 b_add32r b_add32l b_sub32 b_sub32r b_sub32l b_mul32 b_mul32r b_mul32l b_eql32 b_eql32r b_eql32l b_neq32 b_neq32r b_neq32l b_lss32 b_lss32r b_lss32l b_leq32 b_leq32r b_leq32l b_gtr32 b_gtr32r b_gtr32l b_geq32 b_geq32r b_geq32l b_quo32r b_rem32r b_shl32r b_shr32r b_shl32l b_shr32l u_xor32 g_eql32 g_neq32 g_eql32' g_neq32' one64 st64 cm64 b_and64 b_and64r b_and64l b_or64 b_or64r b_or64l b_xor64 b_xor64r b_xor64l b_andNot64 b_andNot64r b_andNot64l b_add64 b_add64r b_add64l b_sub64 b_sub64r b_sub64l b_mul64 b_mul64r b_mul64l b_eql64 b_eql64r b_eql64l b_neq64 b_neq64r b_neq64l b_lss64 b_lss64r b_lss64l b_leq64 b_leq64r b_leq64l b_gtr64 b_gtr64r b_gtr64l b_geq64 b_geq64r b_geq64l b_quo64r b_rem64r b_shl64r b_shr64r b_shl64l b_shr64l u_xor64 g_eql64 g_neq64 g_eql64' g_neq64' c_u8_u8 c_u8_u32 c_u8_u64 c_i_u8 c_u32_u8 c_u32_u32 c_u32_u64 c_i_u32 c_u64_u8 c_u64_u32 c_u64_u64 c_i_u64 c_u8_i c_u32_i
attribute [local go_sem ↓] ce8 ce32 ce64
attribute [local go_sem ↓] sliced_slp loadO25 storeO25 loadO44 storeO44 loadO35 loadO84 storeO84 buildO44
def BuildCO (t : TypeId) (parts : Array (Nat × Value)) : Sem Value := Instr.build t parts
theorem buildO25 (parts : Array (Nat × Value)) : Instr.build 25 parts = BuildCO 25 parts := rfl
attribute [local go_sem ↓] buildO25
theorem built_cm0 : Try.prog.built 25 [] = some Cm.zero.cells.toArray := by kernel_rfl
theorem run_cm0 (w : World) : (BuildCO 25 #[]).run Try.prog w = .ok (cv Cm.zero) w := run_build w _ _ _ built_cm0
theorem storeAtPd {w : World} {b : Nat} {Z : Array Value} (x : Pd) (hb : w.heap[b]? = some (.cells Z 44 (0, 0))) (hZ : Z.size = 90) : (StoreO 44 (.pointer (some ⟨b, 0, none⟩)) (pv x)).run Try.prog w = .ok () (w.setRow b x.cells.toArray) :=
  storeO_row (P := Try.prog) (ty := 44) (cells := x.cells.toArray) hb (by simp [hZ, x.len]) (by simp [x.len, infoPd']) (by simpa using x.one)
theorem storeAtCm {w : World} {b : Nat} {Z : Array Value} (x : Cm) (hb : w.heap[b]? = some (.cells Z 25 (0, 0))) (hZ : Z.size = 66) : (StoreO 25 (.pointer (some ⟨b, 0, none⟩)) (cv x)).run Try.prog w = .ok () (w.setRow b x.cells.toArray) :=
  storeO_row (P := Try.prog) (ty := 25) (cells := x.cells.toArray) hb (by simp [hZ, x.len]) (by simp [x.len, infoCm']) (by simpa using x.one)
theorem place_no {L : Lad} {n : Int} (h : L.pending.findIdx? (fun p => p.number == n) = none) : L.place n = -1 := by unfold Lad.place; rw [h]
theorem place_yes {L : Lad} {n : Int} {i : Nat} (h : L.pending.findIdx? (fun p => p.number == n) = some i) : L.place n = i := by unfold Lad.place; rw [h]
set_option maxRecDepth 100000 in
theorem find_no (B g : Nat) (v : Value) (L : Lad) (n : Int) (w : World) (h : IsL w B g v L) (hl : L.pending.length ≤ 1048576) (hf : L.pending.findIdx? (fun p => p.number == n) = none) :
    Calls Try.prog 20 #[.pointer (some ⟨g, 0, none⟩), .int .i64 n] w fun e w' => e = .returned (.tuple #[pv Pd.zero, .int .i64 164]) ∧ Mod [] w w' := by
  have hp := fun (w1 : World) (h1 : IsL w1 B g v L) => place_any B g v L n w1 h1 hl
  rw [place_no hf] at hp
  have HP := Lib.hid hp
  have H := Lib.hid h
  have hB := fun w1 => run_pd0 w1
  clear hp h hf
  go_enter Try.func20, Try.ntmps20
  go_wp2_with fail
  refine (HP.out _ (H.out.mod0 ((Mod.refl [] w).alloc _))).mono ?_
  rintro e w5 ⟨rfl, m5⟩
  have hZ := m5.get0 (hp_new _ _ _ rfl)
  have hS := storeAtPd Pd.zero hZ (by kernel_rfl)
  have HZ := Lib.hid hZ
  clear hZ
  go_wp2_with fail
  exact bodyPost_ret (results_pd2 rfl _ _ _ _ _ rfl (hp_setRow HZ.out)) rfl ⟨rfl, (((Mod.refl _ _).alloc _).trans0 m5).setRow (.inr (Nat.le_refl _)) _⟩
set_option maxRecDepth 100000 in
theorem find_yes (B g : Nat) (v : Value) (L : Lad) (n : Int) (w : World) (h : IsL w B g v L) (hl : L.pending.length ≤ 1048576) (i : Nat) (x : Pd) (hf : L.pending.findIdx? (fun p => p.number == n) = some i) (hx : L.pending[i]? = some x) :
    Calls Try.prog 20 #[.pointer (some ⟨g, 0, none⟩), .int .i64 n] w fun e w' => e = .returned (.tuple #[pv x, .int .i64 0]) ∧ Mod [] w w' := by
  have hp := fun (w1 : World) (h1 : IsL w1 B g v L) => place_any B g v L n w1 h1 hl
  rw [place_yes hf] at hp
  have HP := Lib.hid hp
  have H := Lib.hid h
  have HX := Lib.hid hx
  have hil := (List.getElem?_eq_some_iff.1 hx).1
  clear hp h hf hx
  go_enter Try.func20, Try.ntmps20
  go_wp2_with fail
  refine (HP.out _ (H.out.mod0 ((Mod.refl [] w).alloc _))).mono ?_
  rintro e w5 ⟨rfl, m5⟩
  have hZ := m5.get0 (hp_new _ _ _ rfl)
  have hS := storeAtPd x hZ (by kernel_rfl)
  have HZ := Lib.hid hZ
  have M5 := ((Mod.refl [] w).alloc _).trans0 m5
  have h5 := H.out.mod0 M5
  have hc := h5.c66
  obtain ⟨b, o, cap, hv, hrg, hcap⟩ := getPd h5 i x HX.out
  rw [hv] at hc
  have hL := loadPd hrg
  clear hZ m5 h5 hv hrg
  go_wp2_with fail
  exact bodyPost_ret (results_pd2 rfl _ _ _ _ _ rfl (hp_setRow HZ.out)) rfl ⟨rfl, M5.setRow (.inr (Nat.le_refl _)) _⟩
/-- What a pending one goes on from. -/
def Lad.prev (L : Lad) (i : Nat) : Cm := match i with | 0 => L.confirmed | k + 1 => match L.pending[k]? with | none => L.confirmed | some x => x.commit
set_option maxRecDepth 100000 in
theorem before_no (B g : Nat) (v : Value) (L : Lad) (n : Int) (w : World) (h : IsL w B g v L) (hl : L.pending.length ≤ 1048576) (hf : L.pending.findIdx? (fun p => p.number == n) = none) :
    Calls Try.prog 45 #[.pointer (some ⟨g, 0, none⟩), .int .i64 n] w fun e w' => e = .returned (.tuple #[cv Cm.zero, .int .i64 164]) ∧ Mod [] w w' := by
  have hp := fun (w1 : World) (h1 : IsL w1 B g v L) => place_any B g v L n w1 h1 hl
  rw [place_no hf] at hp
  have HP := Lib.hid hp
  have H := Lib.hid h
  have hB := fun w1 => run_cm0 w1
  clear hp h hf
  go_enter Try.func45, Try.ntmps45
  go_wp2_with fail
  refine (HP.out _ (H.out.mod0 ((Mod.refl [] w).alloc _))).mono ?_
  rintro e w5 ⟨rfl, m5⟩
  have hZ := m5.get0 (hp_new _ _ _ rfl)
  have hS := storeAtCm Cm.zero hZ (by kernel_rfl)
  have HZ := Lib.hid hZ
  clear hZ
  go_wp2_with fail
  exact bodyPost_ret (results_cm2 rfl _ _ _ _ _ rfl (hp_setRow HZ.out)) rfl ⟨rfl, (((Mod.refl _ _).alloc _).trans0 m5).setRow (.inr (Nat.le_refl _)) _⟩
set_option maxRecDepth 100000 in
theorem before_yes (B g : Nat) (v : Value) (L : Lad) (n : Int) (w : World) (h : IsL w B g v L) (hl : L.pending.length ≤ 1048576) (i : Nat) (hf : L.pending.findIdx? (fun p => p.number == n) = some i) (hi : i < L.pending.length) :
    Calls Try.prog 45 #[.pointer (some ⟨g, 0, none⟩), .int .i64 n] w fun e w' => e = .returned (.tuple #[cv (L.prev i), .int .i64 0]) ∧ Mod [] w w' := by
  have hp := fun (w1 : World) (h1 : IsL w1 B g v L) => place_any B g v L n w1 h1 hl
  rw [place_yes hf] at hp
  have ha : ∀ (w1 : World) (h1 : IsL w1 B g v L), Calls Try.prog 60 #[.pointer (some ⟨g, 0, none⟩), .int .i64 (i : Int)] w1 fun e w' => e = .returned (cv (L.prev i)) ∧ Mod [] w1 w' := by
    intro w1 h1
    cases i with
    | zero => exact ahead_zero B g v L w1 h1
    | succ k =>
      have hk : L.pending[k]? = some (L.pending[k]'(by omega)) := List.getElem?_eq_getElem (by omega)
      have e : L.prev (k + 1) = (L.pending[k]'(by omega)).commit := by unfold Lad.prev; simp only [hk]
      rw [e]
      exact ahead_at B g v L w1 h1 k _ hk _ (by omega) hl
  obtain ⟨T, hT⟩ : ∃ T, T = L.prev i := ⟨_, rfl⟩
  rw [← hT] at ha ⊢
  have HP := Lib.hid hp
  have HA := Lib.hid ha
  have H := Lib.hid h
  clear hp ha h hf hT
  go_enter Try.func45, Try.ntmps45
  go_wp2_with fail
  refine (HP.out _ (H.out.mod0 ((Mod.refl [] w).alloc _))).mono ?_
  rintro e w5 ⟨rfl, m5⟩
  have hZ := m5.get0 (hp_new _ _ _ rfl)
  have M5 := ((Mod.refl [] w).alloc _).trans0 m5
  have HZ := Lib.hid hZ
  clear hZ m5
  go_wp2_with fail
  refine (HA.out _ (H.out.mod0 M5)).mono ?_
  rintro e w6 ⟨rfl, m6⟩
  have hS := storeAtCm T (m6.get0 HZ.out) (by kernel_rfl)
  have HZ6 := Lib.hid (m6.get0 HZ.out)
  have M6 := M5.trans0 m6
  clear m6 M5 HZ
  go_wp2_with fail
  exact bodyPost_ret (results_cm2 rfl _ _ _ _ _ rfl (hp_setRow HZ6.out)) rfl ⟨rfl, M6.setRow (.inr (Nat.le_refl _)) _⟩
end Go.Proofs.Ytmjdfglidfdkaaa
