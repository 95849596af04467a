/- New; the results of calls. No condition. -/
import Derived.Test.YtmjdfglidfdkaaaLdBuild
namespace Go.Proofs.Ytmjdfglidfdkaaa
open Go.RowKit
attribute [local go_sem high] one8 st8 cm8 b_and8 b_and8r b_and8l b_or8 b_or8r b_or8l b_xor8 b_xor8r b_xor8l b_andNot8 b_andNot8r b_andNot8l b_add8 b_add8r b_add8l b_sub8 b_sub8r b_sub8l b_mul8 b_mul8r b_mul8l b_eql8 b_eql8r b_eql8l b_neq8 b_neq8r b_neq8l b_lss8 b_lss8r b_lss8l b_leq8 b_leq8r b_leq8l b_gtr8 b_gtr8r b_gtr8l b_geq8 b_geq8r b_geq8l b_quo8r b_rem8r b_shl8r b_shr8r b_shl8l b_shr8l u_xor8 g_eql8 g_neq8 g_eql8' g_neq8' one32 st32 cm32 b_and32 b_and32r b_and32l b_or32 b_or32r b_or32l b_xor32 b_xor32r b_xor32l b_andNot32 b_andNot32r b_andNot32l b_add32 b_add32r b_add32l b_sub32 b_sub32r b_sub32l b_mul32 b_mul32r b_mul32l b_eql32 b_eql32r b_eql32l b_neq32 b_neq32r b_neq32l b_lss32 b_lss32r b_lss32l b_leq32 b_leq32r b_leq32l b_gtr32 b_gtr32r b_gtr32l b_geq32 b_geq32r b_geq32l b_quo32r b_rem32r b_shl32r b_shr32r b_shl32l b_shr32l u_xor32 g_eql32 g_neq32 g_eql32' g_neq32' one64 st64 cm64 b_and64 b_and64r b_and64l b_or64 b_or64r b_or64l b_xor64 b_xor64r b_xor64l b_andNot64 b_andNot64r b_andNot64l b_add64 b_add64r b_add64l b_sub64 b_sub64r b_sub64l b_mul64 b_mul64r b_mul64l b_eql64 b_eql64r b_eql64l b_neq64 b_neq64r b_neq64l b_lss64 b_lss64r b_lss64l b_leq64 b_leq64r b_leq64l b_gtr64 b_gtr64r b_gtr64l b_geq64 b_geq64r b_geq64l b_quo64r b_rem64r b_shl64r b_shr64r b_shl64l b_shr64l u_xor64 g_eql64 g_neq64 g_eql64' g_neq64' c_u8_u8 c_u8_u32 c_u8_u64 c_i_u8 c_u32_u8 c_u32_u32 c_u32_u64 c_i_u32 c_u64_u8 c_u64_u32 c_u64_u64 c_i_u64 c_u8_i c_u32_i
attribute [local go_sem ↓] ce8 ce32 ce64
attribute [local go_sem ↓] sliced_slp loadO25 storeO25 loadO44 storeO44 loadO35 loadO84 storeO84
theorem froz_build {P : Program} {ops : Array Oper} {rest : List Oper} {o : Oper} {a : Act} {w : World} {Q : Exit → Act → World → Prop} (t : TypeId) (parts : Array (Nat × Operand)) (ho : o.op = .build t parts)
    (h : Froz (wpList P ops Q (o :: rest) a w)) : wpList P ops Q (o :: rest) a w := h
theorem results_pd2 {fn : Func} {p u : Tmp} (h : fn.results = #[.cell p 44, .tmp u]) (tmps : Array Value) (w : World) (b : Nat) (c : Pd) (fr : Nat × Nat)
    (hp : tmps.getD p undef = .pointer (some ⟨b, 0, none⟩)) (hg : w.heap[b]? = some (.cells c.cells.toArray 44 fr)) : (results fn tmps).run Try.prog w = .ok (.tuple #[pv c, tmps.getD u undef]) w := by
  have hp' : tmps[p]?.getD undef = .pointer (some ⟨b, 0, none⟩) := by simpa using hp
  have hrun := run_loadVar_row (P := Try.prog) w b _ 44 c.cells.toArray fr _ hg Try.underlying44 rfl (by simp [c.len, infoPd'])
  simp [results, h, hp', asAddr, hrun]; rfl
theorem results_cm2 {fn : Func} {p u : Tmp} (h : fn.results = #[.cell p 25, .tmp u]) (tmps : Array Value) (w : World) (b : Nat) (c : Cm) (fr : Nat × Nat)
    (hp : tmps.getD p undef = .pointer (some ⟨b, 0, none⟩)) (hg : w.heap[b]? = some (.cells c.cells.toArray 25 fr)) : (results fn tmps).run Try.prog w = .ok (.tuple #[cv c, tmps.getD u undef]) w := by
  have hp' : tmps[p]?.getD undef = .pointer (some ⟨b, 0, none⟩) := by simpa using hp
  have hrun := run_loadVar_row (P := Try.prog) w b _ 25 c.cells.toArray fr _ hg Try.underlying25 rfl (by simp [c.len, infoCm'])
  simp [results, h, hp', asAddr, hrun]; rfl
def newErr (c : Cm) (z : Int) : Int := if cnt c.count = false ∨ cnt c.leaves = false then 160 else if z < 1 ∨ 4611686018427387904 < z then 1 else 0
theorem box_cm (w : World) (c : Cm) : (w.alloc (.cells c.cells.toArray 25)).cell? ⟨w.heap.size, 0, none⟩ = some (.int .i64 c.count) ∧ (w.alloc (.cells c.cells.toArray 25)).cell? ⟨w.heap.size, 65, none⟩ = some (.int .i64 c.leaves) := by
  constructor
  · rw [cell_blk (hp_new _ _ _ rfl), List.getElem?_toArray]; exact c.c0
  · rw [cell_blk (hp_new _ _ _ rfl), List.getElem?_toArray]; exact c.c65
theorem cnt_tf (n : Int) : cnt n = true ∨ cnt n = false := by cases cnt n <;> simp
theorem new_no (c : Cm) (z : Int) (w : World) (h : newErr c z ≠ 0) :
    Calls Try.prog 11 #[cv c, .int .i64 z] w fun e w' => e = .returned (.tuple #[.pointer none, .int .i64 (newErr c z)]) ∧ Mod [] w w' := by
  obtain ⟨hx0, hx65⟩ := box_cm w c
  have hc0 := fun w1 => count_any c.count w1
  have hc1 := fun w1 => count_any c.leaves w1
  unfold newErr at h ⊢
  rcases cnt_tf c.count with e0 | e0
  · rcases cnt_tf c.leaves with e1 | e1
    · have h3 : z < 1 ∨ 4611686018427387904 < z := by
        by_cases h4 : z < 1 ∨ 4611686018427387904 < z
        · exact h4
        · rw [if_neg (by simp [e0, e1]), if_neg h4] at h; exact absurd rfl h
      rw [if_neg (by simp [e0, e1]), if_pos h3]
      rw [e0] at hc0
      rw [e1] at hc1
      have HC0 := Lib.hid hc0
      have HC1 := Lib.hid hc1
      clear hc0 hc1 e0 e1 h
      unfold cv
      rcases h3 with h3 | h3
      · have hd : decide (z < 1) = true := by simpa using h3
        go_enter Try.func11, Try.ntmps11
        go_wp2_with fail
        refine (HC0.out _).mono ?_
        rintro e w5 ⟨rfl, rfl⟩
        go_wp2_with fail
        refine (HC1.out _).mono ?_
        rintro e w5 ⟨rfl, rfl⟩
        go_wp2_with fail
        go_ret2
        exact ⟨rfl, (Mod.refl _ _).alloc _⟩
      · have hd : decide (z < 1) = false := by simp; omega
        have hd2 : decide (4611686018427387904 < z) = true := by simpa using h3
        go_enter Try.func11, Try.ntmps11
        go_wp2_with fail
        refine (HC0.out _).mono ?_
        rintro e w5 ⟨rfl, rfl⟩
        go_wp2_with fail
        refine (HC1.out _).mono ?_
        rintro e w5 ⟨rfl, rfl⟩
        go_wp2_with fail
        go_ret2
        exact ⟨rfl, (Mod.refl _ _).alloc _⟩
    · rw [if_pos (.inr e1)]
      rw [e0] at hc0
      rw [e1] at hc1
      have HC0 := Lib.hid hc0
      have HC1 := Lib.hid hc1
      clear hc0 hc1 e0 e1 h
      unfold cv
      go_enter Try.func11, Try.ntmps11
      go_wp2_with fail
      refine (HC0.out _).mono ?_
      rintro e w5 ⟨rfl, rfl⟩
      go_wp2_with fail
      refine (HC1.out _).mono ?_
      rintro e w5 ⟨rfl, rfl⟩
      go_wp2_with fail
      go_ret2
      exact ⟨rfl, (Mod.refl _ _).alloc _⟩
  · rw [if_pos (.inl e0)]
    rw [e0] at hc0
    have HC0 := Lib.hid hc0
    clear hc0 hc1 e0 h
    unfold cv
    go_enter Try.func11, Try.ntmps11
    go_wp2_with fail
    refine (HC0.out _).mono ?_
    rintro e w5 ⟨rfl, rfl⟩
    go_wp2_with fail
    go_ret2
    exact ⟨rfl, (Mod.refl _ _).alloc _⟩
/-- A new ladder. -/
def NewL (B : Nat) (c : Cm) (z : Int) (w : World) (e : Ending) (w' : World) : Prop := ∃ g, e = .returned (.tuple #[.pointer (some ⟨g, 0, none⟩), .int .i64 0]) ∧ w.heap.size ≤ g ∧ IsL w' B g (.slice none 0 0) ⟨c, [], z, 0, 0⟩ ∧ Mod [] w w'
theorem new_yes (B : Nat) (c : Cm) (z : Int) (w : World) (h : newErr c z = 0) (hB : B ≤ w.heap.size) :
    Calls Try.prog 11 #[cv c, .int .i64 z] w (NewL B c z w) := by
  obtain ⟨hx0, hx65⟩ := box_cm w c
  have hc0 := fun w1 => count_any c.count w1
  have hc1 := fun w1 => count_any c.leaves w1
  unfold newErr at h
  rcases cnt_tf c.count with e0 | e0
  · rcases cnt_tf c.leaves with e1 | e1
    · rw [if_neg (by simp [e0, e1])] at h
      have h3 : ¬ (z < 1 ∨ 4611686018427387904 < z) := fun h3 => by rw [if_pos h3] at h; cases h
      rw [e0] at hc0
      rw [e1] at hc1
      have HC0 := Lib.hid hc0
      have HC1 := Lib.hid hc1
      clear hc0 hc1 e0 e1 h
      have hd : decide (z < 1) = false := by simp; omega
      have hd2 : decide (4611686018427387904 < z) = false := by simp; omega
      have hL : (LoadO 25 (.pointer (some ⟨w.heap.size, 0, none⟩))).run Try.prog (w.alloc (.cells c.cells.toArray 25)) = .ok (cv c) (w.alloc (.cells c.cells.toArray 25)) :=
        loadCm (range_blk (hp_new _ _ _ rfl) 0 _ (fun j v hv => by simpa using hv))
      unfold cv
      change (LoadO _ _).run _ _ = .ok (.agg c.cells.toArray) _ at hL
      go_enter Try.func11, Try.ntmps11
      go_wp2_with fail
      refine (HC0.out _).mono ?_
      rintro e w5 ⟨rfl, rfl⟩
      go_wp2_with fail
      refine (HC1.out _).mono ?_
      rintro e w5 ⟨rfl, rfl⟩
      go_wp2_with (with_reducible refine froz_build _ _ rfl ?_)
      unfold Froz
      refine wpList_built rfl 84 _ rfl _ (built_lad c z) ?_
      go_wp2
      go_ret2
      refine ⟨_, rfl, ?_, ⟨?_, hp_new _ _ _ (by simp), OwnN.nil _ _ _ _ _⟩, ((Mod.refl _ _).alloc _).alloc _⟩
      · omega
      · show B ≤ _; omega
    · rw [if_pos (.inr e1)] at h; cases h
  · rw [if_pos (.inl e0)] at h; cases h
end Go.Proofs.Ytmjdfglidfdkaaa
