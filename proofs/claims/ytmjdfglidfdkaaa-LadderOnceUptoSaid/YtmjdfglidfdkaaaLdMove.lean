/- Hold, Release, Drop, Copy of a ladder. Condition: the ladder's numbers are in their bounds. -/
import Derived.Test.YtmjdfglidfdkaaaLdAsk
namespace Go.Proofs.Ytmjdfglidfdkaaa
open Go.RowKit
attribute [local go_sem high] one8 st8 cm8 b_and8 b_and8r b_and8l b_or8 b_or8r b_or8l b_xor8 b_xor8r b_xor8l b_andNot8 b_andNot8r b_andNot8l b_add8 b_add8r b_add8l b_sub8 b_sub8r b_sub8l b_mul8 b_mul8r b_mul8l b_eql8 b_eql8r b_eql8l b_neq8 b_neq8r b_neq8l b_lss8 b_lss8r b_lss8l b_leq8 b_leq8r b_leq8l b_gtr8 b_gtr8r b_gtr8l b_geq8 b_geq8r b_geq8l b_quo8r b_rem8r b_shl8r b_shr8r b_shl8l b_shr8l u_xor8 g_eql8 g_neq8 g_eql8' g_neq8' one32 st32 cm32 b_and32 b_and32r b_and32l b_or32 b_or32r b_or32l b_xor32 b_xor32r b_xor32l b_andNot32 b_andNot32r b_andNot32l b_add32 b_add32r b_add32l b_sub32 b_sub32r b_sub32l b_mul32 b_mul32r b_mul32l b_eql32 b_eql32r b_eql32l b_neq32 b_neq32r b_neq32l b_lss32 b_lss32r b_lss32l b_leq32 b_leq32r b_leq32l b_gtr32 b_gtr32r b_gtr32l b_geq32 b_geq32r b_geq32l b_quo32r b_rem32r b_shl32r b_shr32r b_shl32l b_shr32l u_xor32 g_eql32 g_neq32 g_eql32' g_neq32' one64 st64 cm64 b_and64 b_and64r b_and64l b_or64 b_or64r b_or64l b_xor64 b_xor64r b_xor64l b_andNot64 b_andNot64r b_andNot64l b_add64 b_add64r b_add64l b_sub64 b_sub64r b_sub64l b_mul64 b_mul64r b_mul64l b_eql64 b_eql64r b_eql64l b_neq64 b_neq64r b_neq64l b_lss64 b_lss64r b_lss64l b_leq64 b_leq64r b_leq64l b_gtr64 b_gtr64r b_gtr64l b_geq64 b_geq64r b_geq64l b_quo64r b_rem64r b_shl64r b_shr64r b_shl64l b_shr64l u_xor64 g_eql64 g_neq64 g_eql64' g_neq64' c_u8_u8 c_u8_u32 c_u8_u64 c_i_u8 c_u32_u8 c_u32_u32 c_u32_u64 c_i_u32 c_u64_u8 c_u64_u32 c_u64_u64 c_i_u64 c_u8_i c_u32_i
attribute [local go_sem ↓] ce8 ce32 ce64
attribute [local go_sem ↓] sliced_slp loadO25 storeO25 loadO44 storeO44 loadO35 loadO84 storeO84 buildO44 buildO25
theorem flatMap_set {α : Type} (f : α → List Value) (s : Nat) (hs : ∀ x, (f x).length = s) : ∀ (l : List α) (i : Nat) (x x' : α) (j : Nat) (u : Value), l[i]? = some x → j < s → f x' = (f x).set j u → (l.set i x').flatMap f = (l.flatMap f).set (i * s + j) u
  | [], i, x, x', j, u, h, _, _ => by simp at h
  | y :: l, 0, x, x', j, u, h, hj, hx => by
    simp only [List.getElem?_cons_zero, Option.some.injEq] at h
    subst h
    rw [List.set_cons_zero, List.flatMap_cons, List.flatMap_cons, Nat.zero_mul, Nat.zero_add, List.set_append_left _ _ (by rw [hs]; exact hj), hx]
  | y :: l, i + 1, x, x', j, u, h, hj, hx => by
    rw [List.set_cons_succ, List.flatMap_cons, List.flatMap_cons, List.set_append_right _ _ (by rw [hs, Nat.succ_mul]; omega), hs, show (i + 1) * s + j - s = i * s + j by rw [Nat.succ_mul]; omega, flatMap_set f s hs l i x x' j u (by simpa using h) hj hx]
theorem Pd.set89 (x : Pd) (d : Int) : Pd.cells { x with duels := d } = x.cells.set 89 (.int .i64 d) := by
  unfold Pd.cells
  rw [List.set_cons_succ, List.set_append_right _ _ (by rw [x.commit.len]; omega), List.set_append_right _ _ (by simp [x.commit.len, x.poster.2]), x.commit.len, List.length_map, x.poster.2]
  rfl
/-- A cell of one of them is written. -/
theorem own_set {w : World} {B b n cap : Nat} {l : List Pd} (h : OwnP w B (.slice (some ⟨b, 0, none⟩) n cap) l) (i : Nat) (x : Pd) (hx : l[i]? = some x) (d : Int) : OwnP (w.setCell ⟨b, i * 90 + 89, none⟩ (.int .i64 d)) B (.slice (some ⟨b, 0, none⟩) n cap) (l.set i { x with duels := d }) := by
  have hi := (List.getElem?_eq_some_iff.1 hx).1
  rcases h.2 with ⟨hv, _⟩ | ⟨g, cap', cur, hv, hB, hg, hn, hm, hs, ht⟩
  · injection hv with hv; cases hv
  · injection hv with hv h1 h2
    injection hv with hv; injection hv with hv
    subst hv h1 h2
    refine ⟨by rw [length_flatMap_const _ 90 Pd.len], .inr ⟨b, cap, cur.setIfInBounds (i * 90 + 89) (.int .i64 d), by rw [List.length_set], hB, hp_sc hg, by rw [List.length_set]; exact hn, hm, by simpa using hs, ?_⟩⟩
    rw [flatMap_set Pd.cells 90 Pd.len l i x _ 89 (.int .i64 d) hx (by decide) (Pd.set89 x d), ← ht, List.length_set, Array.toList_setIfInBounds]
    rw [List.take_set]
theorem own_at {w : World} {B g : Nat} {v : Value} {L : Lad} (h : IsL w B g v L) (i : Nat) (x : Pd) (hx : L.pending[i]? = some x) : ∃ b cap, v = .slice (some ⟨b, 0, none⟩) L.pending.length cap ∧ w.rangeAt b (i * 90) x.cells ∧ L.pending.length ≤ cap ∧ (∃ C, w.heap[b]? = some (.cells C 44 (0, 0)) ∧ i * 90 + 90 ≤ C.size) := by
  have hi := (List.getElem?_eq_some_iff.1 hx).1
  rcases h.own.2 with ⟨hv, h0⟩ | ⟨b, cap, cur, hv, hB, hg, hn, hm, hs, ht⟩
  · rw [List.eq_nil_of_length_eq_zero h0] at hi; simp at hi
  · refine ⟨b, cap, hv, ?_, hn, cur, hg, ?_⟩
    · refine range_blk hg _ _ (fun j u hu => ?_)
      have h1 := flatMap_get Pd.cells 90 Pd.len L.pending i x j u hx hu
      rw [← ht, List.getElem?_take] at h1
      have := h1; simp at this; simpa using this.2
    · rw [hs]
      have : (i + 1) * 90 ≤ cap * 90 := Nat.mul_le_mul_right 90 (by omega)
      omega
theorem IsL.duels {w : World} {B g b cap : Nat} {L : Lad} (h : IsL w B g (.slice (some ⟨b, 0, none⟩) L.pending.length cap) L) (i : Nat) (x : Pd) (hx : L.pending[i]? = some x) (d : Int) :
    IsL (w.setCell ⟨b, i * 90 + 89, none⟩ (.int .i64 d)) B g (.slice (some ⟨b, 0, none⟩) L.pending.length cap) { L with pending := L.pending.set i { x with duels := d } } := by
  have hne : g ≠ b := by
    rintro rfl
    exact h.ne rfl
  refine ⟨h.base, ?_, own_set h.own i x hx d⟩
  exact ((Mod.refl [b] w).setCell (.inl (by simp)) _).get h.blk (by rw [List.mem_singleton]; exact hne)
set_option maxRecDepth 100000 in
theorem hold_yes (B g : Nat) (v : Value) (L : Lad) (n now : Int) (w : World) (h : IsL w B g v L) (hl : L.pending.length ≤ 1048576) (i : Nat) (x : Pd) (hf : L.pending.findIdx? (fun p => p.number == n) = some i) (hx : L.pending[i]? = some x)
    (ht : tim now = true) (hd : now < x.deadline) (hb : 0 ≤ x.duels ∧ x.duels ≤ 4611686018427387904) :
    Calls Try.prog 17 #[.pointer (some ⟨g, 0, none⟩), .int .i64 n, .int .i64 now] w fun e w' => e = .returned (.int .i64 0) ∧ IsL w' B g v { L with pending := L.pending.set i { x with duels := x.duels + 1 } } ∧ Mod (foot g v) w w' := by
  have hp := place_any B g v L n w h hl
  rw [place_yes hf] at hp
  have HP := Lib.hid hp
  have htim := fun w1 => time_any now w1
  rw [ht] at htim
  have HTIM := Lib.hid htim
  obtain ⟨b, cap, hv, hrg, hcap, C, hbk, hC⟩ := own_at h i x hx
  have hil := (List.getElem?_eq_some_iff.1 hx).1
  subst hv
  have H := Lib.hid h
  have HX := Lib.hid hx
  have HRG := Lib.hid hrg
  have HBK := Lib.hid hbk
  obtain ⟨hb0, hb1⟩ := hb
  have hdd : decide (x.deadline ≤ now) = false := by simp; omega
  clear hp h hf hx ht htim hrg hbk hd
  go_enter Try.func17, Try.ntmps17
  go_wp2_with fail
  refine HP.out.mono ?_
  rintro e w5 ⟨rfl, m5⟩
  have h5 := H.out.mod0 m5
  have H5 := Lib.hid h5
  have hc := h5.c66
  have hr5 := range_mod m5 HRG.out (by simp)
  have hc88 := range_cell hr5 88 _ x.c88
  have hc89 := range_cell hr5 89 _ x.c89
  have hf89 : w5.frozen? ⟨b, i * 90 + 89, none⟩ = false := frozen_blk (m5.get0 HBK.out) _
  have HM5 := Lib.hid m5
  clear h5 hr5 m5
  go_wp2_with fail
  refine (HTIM.out _).mono ?_
  rintro e w6 ⟨rfl, rfl⟩
  go_wp2_with fail
  go_ret
  exact ⟨rfl, H5.out.duels i x HX.out (x.duels + 1), (HM5.out.mono (fun _ hx => by cases hx)).setCell (.inl (mem_foot.2 (.inr rfl))) _⟩
end Go.Proofs.Ytmjdfglidfdkaaa
