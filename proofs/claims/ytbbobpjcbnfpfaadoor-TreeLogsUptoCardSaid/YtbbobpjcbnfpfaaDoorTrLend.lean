/- What the tree's laws lend: lent, kept (bytes); lists of digests: same, lentPath, keptPath, turn. Condition: fewer than 2^32 of them. -/
import Derived.Test.YtbbobpjcbnfpfaaDoorTrClash
import Derived.Test.YtbbobpjcbnfpfaaDoorLawLib
import Derived.Laws.IdiomCopy
namespace Go.Proofs.YtbbobpjcbnfpfaaDoor
open Go.RowKit
attribute [local go_sem high] one8 st8 cm8 b_and8 b_and8r b_and8l b_or8 b_or8r b_or8l b_xor8 b_xor8r b_xor8l b_andNot8 b_andNot8r b_andNot8l b_add8 b_add8r b_add8l b_sub8 b_sub8r b_sub8l b_mul8 b_mul8r b_mul8l b_eql8 b_eql8r b_eql8l b_neq8 b_neq8r b_neq8l b_lss8 b_lss8r b_lss8l b_leq8 b_leq8r b_leq8l b_gtr8 b_gtr8r b_gtr8l b_geq8 b_geq8r b_geq8l b_quo8r b_rem8r b_shl8r b_shr8r b_shl8l b_shr8l u_xor8 g_eql8 g_neq8 g_eql8' g_neq8' one32 st32 cm32 b_and32 b_and32r b_and32l b_or32 b_or32r b_or32l b_xor32 b_xor32r b_xor32l b_andNot32 b_andNot32r b_andNot32l b_add32 b_add32r b_add32l b_sub32 b_sub32r b_sub32l b_mul32 b_mul32r b_mul32l b_eql32 b_eql32r b_eql32l b_neq32 b_neq32r b_neq32l b_lss32 b_lss32r b_lss32l b_leq32 b_leq32r b_leq32l b_gtr32 b_gtr32r b_gtr32l b_geq32 b_geq32r b_geq32l b_quo32r b_rem32r b_shl32r b_shr32r b_shl32l b_shr32l u_xor32 g_eql32 g_neq32 g_eql32' g_neq32' one64 st64 cm64 b_and64 b_and64r b_and64l b_or64 b_or64r b_or64l b_xor64 b_xor64r b_xor64l b_andNot64 b_andNot64r b_andNot64l b_add64 b_add64r b_add64l b_sub64 b_sub64r b_sub64l b_mul64 b_mul64r b_mul64l b_eql64 b_eql64r b_eql64l b_neq64 b_neq64r b_neq64l b_lss64 b_lss64r b_lss64l b_leq64 b_leq64r b_leq64l b_gtr64 b_gtr64r b_gtr64l b_geq64 b_geq64r b_geq64l b_quo64r b_rem64r b_shl64r b_shr64r b_shl64l b_shr64l u_xor64 g_eql64 g_neq64 g_eql64' g_neq64' c_u8_u8 c_u8_u32 c_u8_u64 c_i_u8 c_u32_u8 c_u32_u32 c_u32_u64 c_i_u32 c_u64_u8 c_u64_u32 c_u64_u64 c_i_u64 c_u8_i c_u32_i
attribute [local go_sem ↓] ce8 ce32 ce64
attribute [local go_sem ↓] sliced_slp loadO26 storeO26 buildO24
def marks (n : Nat) : List UInt8 := List.replicate n 201
theorem marks_length (n : Nat) : (marks n).length = n := by simp [marks]
theorem marks_get (n i : Nat) (h : i < n) : (marks n)[i]? = some 201 := by simp [marks, h]
theorem marks_succ (n : Nat) : marks (n + 1) = marks n ++ [201] := by simp [marks, List.replicate_succ']
theorem zeros_cons (n : Nat) : zeros (n + 1) = 0 :: zeros n := rfl
theorem lent_step (a : List UInt8) (k : Nat) (h : k < 70) : (a ++ marks k ++ zeros (70 - k)).set (a.length + k) 201 = a ++ marks (k + 1) ++ zeros (70 - (k + 1)) := by
  rw [List.set_append_right _ _ (by simp [marks_length]), marks_succ]
  obtain ⟨z, hz⟩ : ∃ z, 70 - k = z + 1 := ⟨69 - k, by omega⟩
  rw [hz, zeros_cons, show 70 - (k + 1) = z by omega]
  simp [marks_length]
theorem lent_any (p : Option Addr) (cap : Nat) (a : List UInt8) (w : World) (ha : Rd V8 w p cap a) (hd : a.length ≤ 70368744177664) :
    Calls Tryd.prog 14 #[.slice p a.length cap] w fun e w' => e = .returned (.slice (some ⟨w.heap.size, 0, none⟩) (a.length + 70) (a.length + 70)) ∧ w'.heap[w.heap.size]? = some (.cells ((a ++ marks 70).map V8).toArray 5) ∧ Mod [] w w' := by
  go_enter Tryd.func14, Tryd.ntmps14
  have HA := Lib.hid ha
  clear ha
  go_wp2_with (first
    | (at_make; refine wpList_make8 rfl _ _ rfl (a.length + 70) _ rfl rfl (by omega) (by omega) ?_)
    | (with_reducible refine froz_copy _ _ rfl ?_))
  unfold Froz
  refine wpList_copy8 rfl _ _ rfl w.heap.size 0 (a.length + 70) (a.length + 70) p a.length cap a (zeros (a.length + 70)) rfl rfl (hp_new _ _ _ rfl) (HA.out.mod0 ((Mod.refl [] w).alloc _)) rfl (by simp [zeros_length]) ?_
  have e : (zeros (a.length + 70)).take 0 ++ (a.take (a.length + 70) ++ (zeros (a.length + 70)).drop (0 + min a.length (a.length + 70))) = a ++ zeros 70 := by
    rw [List.take_zero, List.nil_append, List.take_of_length_le (by omega), show 0 + min a.length (a.length + 70) = a.length by omega]
    simp [zeros]
  rw [e]
  refine abs_w (C := fun W => wpList _ _ _ _ _ W) (fun W => W.heap[w.heap.size]? = some (.cells ((a ++ zeros 70).map V8).toArray 5) ∧ Mod [] w W) ⟨hp_setRow (hp_new _ _ _ rfl), ((Mod.refl [] w).alloc _).setRow (.inr (Nat.le_refl _)) _⟩ ?_
  rintro W ⟨hb0, hm0⟩
  have HB := Lib.hid hb0
  clear hb0 e
  go_wp2
  go_loopw [4] (fun v wr => ∃ k : Nat, k ≤ 70 ∧ v = .int .i64 ((a.length : Int) + k) ∧ wr.heap[w.heap.size]? = some (.cells ((a ++ marks k ++ zeros (70 - k)).map V8).toArray 5) ∧ Mod [] w wr) (fun v _ => (a.length + 70) - (intOf v).toNat)
  case atStart => exact ⟨0, by omega, by simp, by simpa [marks] using HB.out, hm0⟩
  case round =>
    clear HB hm0
    obtain ⟨k, hk, rfl, hb, hm⟩ := hrel
    have HB := Lib.hid hb
    clear hb
    by_cases hlt : k < 70
    · obtain ⟨j, hj⟩ : ∃ j, j = a.length + k := ⟨_, rfl⟩
      have hjz : (a.length : Int) + (k : Int) = (j : Int) := by omega
      have hjl : j < a.length + 70 := by omega
      have hc : wr.cell? ⟨w.heap.size, j, none⟩ = some (V8 ((a ++ marks k ++ zeros (70 - k)).getD j 0)) := by
        rw [cell_blk HB.out]
        simpa using cell_map V8 (a ++ marks k ++ zeros (70 - k)) j 0 (by simp [marks_length, zeros_length]; omega)
      have hf : wr.frozen? ⟨w.heap.size, j, none⟩ = false := frozen_blk HB.out j
      rw [hjz]
      have HJ := Lib.hid hj
      have HJZ := Lib.hid hjz
      clear hj hjz
      go_wp2
      go_roundw
      case rel =>
        have hjz := HJZ.out
        refine ⟨k + 1, by omega, by go_num, ?_, hm.setCell (.inr (Nat.le_refl _)) _⟩
        have h := hp_sc (j := j) (v := V8 201) HB.out
        rw [map_set, HJ.out, lent_step a k hlt] at h
        rw [HJ.out]
        exact h
      case measure => have hjz := HJZ.out; simp [intOf]; omega
    · have hkk : k = 70 := by omega
      have HK := Lib.hid hkk
      have hd1 : decide ((a.length : Int) + (k : Int) < (a.length : Int) + 70) = false := by simp; omega
      clear hkk
      go_wp2
      go_ret
      refine ⟨rfl, ?_, hm⟩
      have h := HB.out
      rw [HK.out] at h
      simpa [zeros] using h
theorem kept_q (g : Nat) (cp : Nat) (c : List UInt8) (q : Option Addr) (qap : Nat) (b : List UInt8) (n : Nat) (hn : n = b.length + 70) (hc : c.length = b.length) (w : World) (hg : Rd V8 w (some ⟨g, 0, none⟩) cp (c ++ marks 70)) (hb : Rd V8 w q qap b) (hd : b.length ≤ 70368744177664) :
    Calls Tryd.prog 16 #[.slice (some ⟨g, 0, none⟩) n cp, .slice q b.length qap] w fun e w' => e = .returned (.bool (c == b)) ∧ ∃ m, w' = w.drewN m := by
  subst hn
  have hcp : b.length + 70 ≤ cp := by have := hg.le; simp [marks_length] at this; omega
  have hcel : ∀ k : Nat, k < 70 → w.cell? ⟨g, b.length + k, none⟩ = some (V8 201) := by
    intro k hk
    obtain ⟨b', o', e, h⟩ := hg.cell (b.length + k) 201 (by rw [List.getElem?_append_right (by omega), ← hc]; simpa using marks_get 70 k hk)
    injection e with e; injection e with e1 e2; subst e1 e2
    simpa using h
  have hra := hg.take c.length
  rw [List.take_left' rfl] at hra
  have hsa := fun m => str_rd (hra.mod0 ((Mod.refl [] w).drewN m)) b.length hc.symm
  have hsb := fun m => str_rd (hb.mod0 ((Mod.refl [] w).drewN m)) _ rfl
  have HSA := Lib.hid hsa
  have HSB := Lib.hid hsb
  clear hra hsa hsb
  have HC := Lib.hid hcel
  clear hcel hg hb
  go_enter Tryd.func16, Tryd.ntmps16
  go_wp2
  go_loopw [5] (fun v wr => ∃ k : Nat, k ≤ 70 ∧ v = .int .i64 ((b.length : Int) + k) ∧ wr = w) (fun v _ => (b.length + 70) - (intOf v).toNat)
  case atStart => exact ⟨0, by omega, by simp, rfl⟩
  case round =>
    obtain ⟨k, hk, rfl, rfl⟩ := hrel
    by_cases hlt : k < 70
    · obtain ⟨j, hj⟩ : ∃ j, j = b.length + k := ⟨_, rfl⟩
      have hjz : (b.length : Int) + (k : Int) = (j : Int) := by omega
      have hjl : j < b.length + 70 := by omega
      have hcj : wr.cell? ⟨g, j, none⟩ = some (V8 201) := by rw [hj]; exact HC.out k hlt
      rw [hjz]
      have HJZ := Lib.hid hjz
      clear hj hjz
      go_wp2
      go_roundw
      case rel => have hjz := HJZ.out; exact ⟨k + 1, by omega, by go_num, by first | rfl | trivial⟩
      case measure => have hjz := HJZ.out; simp [intOf]; omega
    · have hkk : k = 70 := by omega
      have hd1 : decide ((b.length : Int) + (k : Int) < (b.length : Int) + 70) = false := by simp; omega
      clear hkk
      have hsa := HSA.out
      have hsb := HSB.out
      have f1 : (0 : Int) ≤ (b.length : Int) := by omega
      have f2 : (b.length : Int) ≤ (cp : Int) := by omega
      have f3 : (b.length : Int) ≤ (b.length : Int) + 70 := by omega
      go_wp2_with fail
      go_quiet (fail)
      go_wp2_with fail
      go_ret
      exact ⟨rfl, _, rfl⟩
theorem kept_any (g : Nat) (cp : Nat) (c : List UInt8) (q : Option Addr) (qap : Nat) (b : List UInt8) (n : Nat) (hn : n = b.length + 70) (hc : c.length = b.length) (w : World) (hg : Rd V8 w (some ⟨g, 0, none⟩) cp (c ++ marks 70)) (hb : Rd V8 w q qap b) (hd : b.length ≤ 70368744177664) :
    Calls Tryd.prog 16 #[.slice (some ⟨g, 0, none⟩) n cp, .slice q b.length qap] w fun e w' => e = .returned (.bool (c == b)) ∧ Mod [] w w' :=
  (kept_q g cp c q qap b n hn hc w hg hb hd).mono fun _ _ h => ⟨h.1, by obtain ⟨m, e⟩ := h.2; rw [e]; exact (Mod.refl [] w).drewN m⟩
end Go.Proofs.YtbbobpjcbnfpfaaDoor
