/- lay of the document's writer. Condition: at most 2^22 bytes are laid, 2^40 asked for. -/
import Derived.Test.YtmdgefiojapogaaDoorDwMem
import Derived.Test.YtmdgefiojapogaaDoorWrLay
namespace Go.Proofs.YtmdgefiojapogaaDoor
open Go.RowKit
attribute [local go_sem high] one8 st8 cm8 b_and8 b_and8r b_and8l b_or8 b_or8r b_or8l b_xor8 b_xor8r b_xor8l b_andNot8 b_andNot8r b_andNot8l b_add8 b_add8r b_add8l b_sub8 b_sub8r b_sub8l b_mul8 b_mul8r b_mul8l b_eql8 b_eql8r b_eql8l b_neq8 b_neq8r b_neq8l b_lss8 b_lss8r b_lss8l b_leq8 b_leq8r b_leq8l b_gtr8 b_gtr8r b_gtr8l b_geq8 b_geq8r b_geq8l b_quo8r b_rem8r b_shl8r b_shr8r b_shl8l b_shr8l u_xor8 g_eql8 g_neq8 g_eql8' g_neq8' one32 st32 cm32 b_and32 b_and32r b_and32l b_or32 b_or32r b_or32l b_xor32 b_xor32r b_xor32l b_andNot32 b_andNot32r b_andNot32l b_add32 b_add32r b_add32l b_sub32 b_sub32r b_sub32l b_mul32 b_mul32r b_mul32l b_eql32 b_eql32r b_eql32l b_neq32 b_neq32r b_neq32l b_lss32 b_lss32r b_lss32l b_leq32 b_leq32r b_leq32l b_gtr32 b_gtr32r b_gtr32l b_geq32 b_geq32r b_geq32l b_quo32r b_rem32r b_shl32r b_shr32r b_shl32l b_shr32l u_xor32 g_eql32 g_neq32 g_eql32' g_neq32' one64 st64 cm64 b_and64 b_and64r b_and64l b_or64 b_or64r b_or64l b_xor64 b_xor64r b_xor64l b_andNot64 b_andNot64r b_andNot64l b_add64 b_add64r b_add64l b_sub64 b_sub64r b_sub64l b_mul64 b_mul64r b_mul64l b_eql64 b_eql64r b_eql64l b_neq64 b_neq64r b_neq64l b_lss64 b_lss64r b_lss64l b_leq64 b_leq64r b_leq64l b_gtr64 b_gtr64r b_gtr64l b_geq64 b_geq64r b_geq64l b_quo64r b_rem64r b_shl64r b_shr64r b_shl64l b_shr64l u_xor64 g_eql64 g_neq64 g_eql64' g_neq64' c_u8_u8 c_u8_u32 c_u8_u64 c_i_u8 c_u32_u8 c_u32_u32 c_u32_u64 c_i_u32 c_u64_u8 c_u64_u32 c_u64_u64 c_i_u64 c_u8_i c_u32_i
attribute [local go_sem ↓] ce8 ce32 ce64
attribute [local go_sem ↓] sliced_slp
theorem dlay_any (B g : Nat) (v : Value) (W : Wr) (w : World) (h : IsV w B g v W) (hk : W.b.length ≤ 4194304) (p : Option Addr) (cap : Nat) (l : List UInt8) (hr : Rd V8 w p cap l) (hl : l.length ≤ 1099511627776) :
    Calls Tryd.prog 87 #[.pointer (some ⟨g, 0, none⟩), .slice p l.length cap] w (DwPost B g v (W.lay l) (.tuple #[]) w) := by
  have H := Lib.hid h
  have HR := Lib.hid hr
  obtain ⟨pb, cb, hv, _, _⟩ := h.own.rd
  have hc0 := h.c0
  have hc1 := h.c1
  have f0 := h.frz 0
  have f1 := h.frz 1
  rw [hv] at hc0
  have HV := Lib.hid hv
  clear h hr hv
  by_cases he : W.e = 0
  · have d0 : (W.e != 0) = false := by simp [he]
    by_cases hb : 4194304 < W.b.length + l.length
    · have db : decide (4194304 < (W.b.length : Int) + (l.length : Int)) = true := by simp; omega
      have HW := Lib.hid (show W.lay l = { W with e := 30 } by unfold Wr.lay; rw [if_neg (by simp [he]), if_pos hb])
      clear he hb
      go_enter Tryd.func87, Tryd.ntmps87
      go_wp2_with fail
      refine bodyPost_ret (results_none rfl _ _ _) rfl ?_
      exact ⟨v, rfl, by rw [HW.out]; exact H.out.setE 30, (Mod.refl _ _).setCell (p := ⟨g, 1, none⟩) (.inl (mem_footB.2 (.inl rfl))) _, fun x hx => .inl hx⟩
    · have db : decide (4194304 < (W.b.length : Int) + (l.length : Int)) = false := by simp; omega
      have HW := Lib.hid (show W.lay l = { W with b := W.b ++ l } by unfold Wr.lay; rw [if_neg (by simp [he]), if_neg hb])
      clear he hb
      go_enter Tryd.func87, Tryd.ntmps87
      go_wp2_with (at_builtin; with_reducible refine froz_app _ _ rfl ?_)
      unfold Froz
      refine wpList_pushB rfl _ _ rfl B _ _ H.out.own HV.out.symm p l.length cap l rfl rfl HR.out (by omega) (Nat.le_trans H.out.base (Nat.le_of_lt H.out.lt)) ?_
      intro v2 w2 ho2 hg2 hw2
      obtain ⟨bb, hbb⟩ : ∃ bb, bb = W.b ++ l := ⟨_, rfl⟩
      change Own w2 B v2 (W.b ++ l) at ho2
      rw [← hbb] at ho2
      have HBB := Lib.hid hbb
      have hm2 : Mod (footB g v) w w2 := (Mod.refl (footB g v) w).of_grown hg2 (fun b hb => .inl (mem_footB.2 (.inr hb)))
      have hb2 : w2.heap[g]? = some (.cells #[v, .int .i64 W.e] 136 (0, 0)) := by
        rw [hg2.block g H.out.lt (fun e => H.out.ne e.symm)]; exact H.out.blk
      have hn2 : v2.ownBlock ≠ some g := by
        intro e
        rcases hw2 with e2 | e2
        · exact H.out.ne (e2 ▸ e)
        · rw [e] at e2; injection e2 with e2
          have := H.out.lt
          omega
      have hset : IsV (w2.setCell ⟨g, 0, none⟩ v2) B g v2 ⟨bb, W.e⟩ := by
        refine ⟨H.out.base, by rw [hp_sc hb2]; rfl, ho2.mod ((Mod.refl [g] w2).setCell (.inl (by simp)) _) (fun x hx hv => ?_)⟩
        rw [List.mem_singleton] at hx
        subst hx
        exact hn2 hv
      have hmm : Mod (footB g v) w (w2.setCell ⟨g, 0, none⟩ v2) := hm2.setCell (p := ⟨g, 0, none⟩) (.inl (mem_footB.2 (.inl rfl))) _
      have hvv : ∀ x, v2.ownBlock = some x → v.ownBlock = some x ∨ w.heap.size ≤ x := by
        intro x hx
        rcases hw2 with e2 | e2
        · exact .inl (e2 ▸ hx)
        · rw [hx] at e2; injection e2 with e2
          exact .inr (by omega)
      obtain ⟨p2, c2, hv2, _, _⟩ := ho2.rd
      subst hv2
      have k0 : w2.cell? ⟨g, 0, none⟩ = some v := by rw [cell_blk hb2]; rfl
      have k1 := frozen_blk hb2 0
      have HS := Lib.hid hset
      have HMM := Lib.hid hmm
      have HVV := Lib.hid hvv
      rw [HV.out] at k0
      clear ho2 hg2 hw2 hbb hm2 hb2 hn2 hset hmm hvv hc0 hc1 f0 f1
      go_wp2_with fail
      go_end0
      exact ⟨_, rfl, by rw [HW.out, ← HBB.out]; exact HS.out, HMM.out, HVV.out⟩
  · have d0 : (W.e != 0) = true := by simpa using he
    have HW := Lib.hid (show W.lay l = W by unfold Wr.lay; rw [if_pos he])
    clear he
    go_enter Tryd.func87, Tryd.ntmps87
    go_wp2_with fail
    refine bodyPost_ret (results_none rfl _ _ _) rfl ?_
    exact ⟨v, rfl, by rw [HW.out]; exact H.out, Mod.refl _ _, fun x hx => .inl hx⟩
end Go.Proofs.YtmdgefiojapogaaDoor
