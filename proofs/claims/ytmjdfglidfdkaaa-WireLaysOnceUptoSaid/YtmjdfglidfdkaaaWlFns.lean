/- What WireLaysOnce hands to Lay; sameInts. Condition: at most 2^20 numbers. -/
import Derived.Test.YtmjdfglidfdkaaaWrLayInt
import Derived.Test.YtmjdfglidfdkaaaWlPure
import Derived.Test.YtmjdfglidfdkaaaWnKnown
namespace Go.Proofs.Ytmjdfglidfdkaaa
open Go.RowKit
attribute [local go_sem high] one8 st8 cm8 b_and8 b_and8r b_and8l b_or8 b_or8r b_or8l b_xor8 b_xor8r b_xor8l b_andNot8 b_andNot8r b_andNot8l b_add8 b_add8r b_add8l b_sub8 b_sub8r b_sub8l b_mul8 b_mul8r b_mul8l b_eql8 b_eql8r b_eql8l b_neq8 b_neq8r b_neq8l b_lss8 b_lss8r b_lss8l b_leq8 b_leq8r b_leq8l b_gtr8 b_gtr8r b_gtr8l b_geq8 b_geq8r b_geq8l b_quo8r b_rem8r b_shl8r b_shr8r b_shl8l b_shr8l u_xor8 g_eql8 g_neq8 g_eql8' g_neq8' one32 st32 cm32 b_and32 b_and32r b_and32l b_or32 b_or32r b_or32l b_xor32 b_xor32r b_xor32l b_andNot32 b_andNot32r b_andNot32l b_add32 b_add32r b_add32l b_sub32 b_sub32r b_sub32l b_mul32 b_mul32r b_mul32l b_eql32 b_eql32r b_eql32l b_neq32 b_neq32r b_neq32l b_lss32 b_lss32r b_lss32l b_leq32 b_leq32r b_leq32l b_gtr32 b_gtr32r b_gtr32l b_geq32 b_geq32r b_geq32l b_quo32r b_rem32r b_shl32r b_shr32r b_shl32l b_shr32l u_xor32 g_eql32 g_neq32 g_eql32' g_neq32' one64 st64 cm64 b_and64 b_and64r b_and64l b_or64 b_or64r b_or64l b_xor64 b_xor64r b_xor64l b_andNot64 b_andNot64r b_andNot64l b_add64 b_add64r b_add64l b_sub64 b_sub64r b_sub64l b_mul64 b_mul64r b_mul64l b_eql64 b_eql64r b_eql64l b_neq64 b_neq64r b_neq64l b_lss64 b_lss64r b_lss64l b_leq64 b_leq64r b_leq64l b_gtr64 b_gtr64r b_gtr64l b_geq64 b_geq64r b_geq64l b_quo64r b_rem64r b_shl64r b_shr64r b_shl64l b_shr64l u_xor64 g_eql64 g_neq64 g_eql64' g_neq64' c_u8_u8 c_u8_u32 c_u8_u64 c_i_u8 c_u32_u8 c_u32_u32 c_u32_u64 c_i_u32 c_u64_u8 c_u64_u32 c_u64_u64 c_i_u64 c_u8_i c_u32_i
attribute [local go_sem ↓] ce8 ce32 ce64
attribute [local go_sem ↓] sliced_slp
theorem blk_ne {w : World} {a b : Nat} {C C' : Array Value} {t t' : TypeId} {fr fr' : Nat × Nat} (h : w.heap[a]? = some (.cells C t fr)) (h' : w.heap[b]? = some (.cells C' t' fr')) (ht : t ≠ t') : a ≠ b := by
  rintro rfl
  rw [h] at h'; injection h' with h'; injection h' with _ h5 _
  exact ht h5
/-- A row of other elements is none of a writer's blocks. -/
theorem IsW.off_ty {w : World} {B g : Nat} {v : Value} {W : Wr} (h : IsW w B g v W) {b : Nat} {C : Array Value} {t : TypeId} {fr : Nat × Nat} (hb : w.heap[b]? = some (.cells C t fr)) (h1 : t ≠ 94) (h2 : t ≠ 5) : b ≠ g ∧ v.ownBlock ≠ some b := by
  refine ⟨blk_ne hb h.blk h1, fun hv => ?_⟩
  obtain ⟨C', h'⟩ := h.own.type b hv
  exact blk_ne hb h' h2 rfl
theorem callLays1 (xs : Array Value) (w : World) : (callFunc 29 xs).run Try.prog w = .ok (.enter 29 xs) w := by kernel_rfl
set_option maxRecDepth 100000 in
theorem lays1_any (B g bs : Nat) (v : Value) (W : Wr) (w : World) (h : IsW w B g v W) (hk : W.b.length ≤ 4194304) (x : Int) (hx : x ≤ 9223372036854775807) (vs : Value) (xs : List Int) (hs : w.heap[bs]? = some (.cells #[vs] 62 (0, 0))) (ho : OwnI w B vs xs) (hxl : xs.length ≤ 1048576) (hB : B ≤ bs) :
    Calls Try.prog 29 #[.pointer (some ⟨g, 0, none⟩), .int .i64 x, .pointer (some ⟨bs, 0, none⟩)] w fun e w' => e = .returned (.tuple #[]) ∧ ∃ v' vs', IsW w' B g v' (W.number x) ∧ w'.heap[bs]? = some (.cells #[vs'] 62 (0, 0)) ∧ OwnI w' B vs' (xs ++ [x]) ∧ ∃ S, Mod S w w' ∧ ∀ y ∈ S, B ≤ y := by
  obtain ⟨ps, cs, hvs, _, _⟩ := ho.rdI
  have H := Lib.hid h
  have HS := Lib.hid hs
  have HO := Lib.hid ho
  have cb : w.cell? ⟨bs, 0, none⟩ = some (.slice ps xs.length cs) := by rw [cell_blk hs, ← hvs]; rfl
  have hbl : bs < w.heap.size := lt_of_block hs
  have HVS := Lib.hid hvs
  clear h hs ho hvs
  go_enter Try.func29, Try.ntmps29
  go_wp2_with (at_builtin; with_reducible refine froz_app _ _ rfl ?_)
  unfold Froz
  refine wpList_pushN (VI 0) 8 Try.underlying62 infoInt rfl (by decide) ci_len ci_one rfl _ _ rfl B vs xs (HO.out.alloc _) HVS.out.symm w.heap.size 0 1 1 [x] rfl rfl (range_ci w x _ rfl) (by unfold maxLen; simp; omega) (by simp; omega) (by simp; have := H.out.base; have := H.out.lt; omega) ?_
  intro v' w2 ho2 hg2
  obtain ⟨ys, hys⟩ : ∃ ys, ys = xs ++ [x] := ⟨_, rfl⟩
  change OwnI w2 B v' (xs ++ [x]) at ho2
  rw [← hys] at ho2
  have HYS := Lib.hid hys
  clear hys
  have hm2 : Mod vs.ownBlock.toList w w2 := (((Mod.refl vs.ownBlock.toList w).alloc _)).of_grown hg2 (fun y hy => .inl (by rw [hy]; simp))
  have hoff : ∀ y ∈ vs.ownBlock.toList, y ≠ g ∧ v.ownBlock ≠ some y ∧ y ≠ bs := by
    intro y hy
    obtain ⟨C, hC⟩ := HO.out.type y (by simpa using hy)
    obtain ⟨h1, h2⟩ := H.out.off_ty hC (by decide) (by decide)
    exact ⟨h1, h2, blk_ne hC HS.out (by decide)⟩
  have H2 := Lib.hid (H.out.mod hm2 (fun hx => (hoff _ hx).1 rfl) (fun y hy => (hoff y hy).2.1))
  have hb2 := hm2.get HS.out (fun hx => (hoff _ hx).2.2 rfl)
  have HB2 := Lib.hid hb2
  have hc2 : w2.cell? ⟨bs, 0, none⟩ = some vs := by rw [cell_blk hb2]; rfl
  have hf2 := frozen_blk hb2 0
  have HO2 := Lib.hid ho2
  have HM2 := Lib.hid hm2
  obtain ⟨p2, c2, hv2, _, _⟩ := OwnI.rdI ho2
  subst hv2
  obtain ⟨w3, hw3⟩ : ∃ W, W = w2.setCell ⟨bs, 0, none⟩ (.slice p2 ys.length c2) := ⟨_, rfl⟩
  have hm3 : Mod [bs] w2 w3 := by rw [hw3]; exact (Mod.refl [bs] w2).setCell (p := ⟨bs, 0, none⟩) (.inl (by simp)) _
  have hbt := H2.out.off_ty hb2 (by decide) (by decide)
  have hi3 := H2.out.mod hm3 (by simpa using fun e => hbt.1 e.symm) (fun y hy => by rw [List.mem_singleton] at hy; subst hy; exact hbt.2)
  have hb3 : w3.heap[bs]? = some (.cells #[.slice p2 ys.length c2] 62 (0, 0)) := by rw [hw3, hp_sc hb2]; rfl
  have ho3 : OwnI w3 B (.slice p2 ys.length c2) ys := ho2.mod hm3 (fun y hy hv => by
    rw [List.mem_singleton] at hy
    subst hy
    obtain ⟨C, hC⟩ := ho2.type y hv
    exact blk_ne hC hb2 (by decide) rfl)
  have HN := Lib.hid (number_any B g v W w3 hi3 hk x hx)
  have HB3 := Lib.hid hb3
  have HO3 := Lib.hid ho3
  have HI3 := Lib.hid hi3
  have HM3 := Lib.hid hm3
  rw [hw3] at HN
  have HW3 := Lib.hid hw3
  clear ho2 hg2 hm2 hoff hb2 hw3 hm3 hbt hi3 hb3 ho3 cb
  go_wp2_with fail
  refine HN.out.mono ?_
  rintro e w4 ⟨v4, rfl, hi4, m4, _⟩
  rw [← HW3.out] at m4
  have HI4 := Lib.hid hi4
  have HM4 := Lib.hid m4
  clear hi4 m4 hc2 hf2 HN
  go_wp2_with fail
  go_end0
  have hb3 := HB3.out
  have hx3 := HI3.out.off_ty hb3 (by decide) (by decide)
  have hbs4 : bs ∉ footB g v := fun hx => by
    rcases mem_footB.1 hx with e | e
    · exact hx3.1 e
    · exact hx3.2 e
  have hoff3 : ∀ y ∈ footB g v, (Value.slice p2 ys.length c2).ownBlock ≠ some y := by
    intro y hy hv
    obtain ⟨C, hC⟩ := HO3.out.type y hv
    obtain ⟨h1, h2⟩ := HI3.out.off_ty hC (by decide) (by decide)
    rcases mem_footB.1 hy with e | e
    · exact h1 e
    · exact h2 e
  refine ⟨rfl, v4, _, HI4.out, HM4.out.get hb3 hbs4, by rw [← HYS.out]; exact HO3.out.mod HM4.out hoff3, (bs :: vs.ownBlock.toList) ++ footB g v, ?_, ?_⟩
  · exact ((HM2.out.mono (S' := (bs :: vs.ownBlock.toList) ++ footB g v) (fun y hy => .inl (by simp at hy ⊢; simp [hy]))).trans HM3.out (fun y hy => .inl (by simp at hy; subst hy; simp))).trans HM4.out (fun y hy => .inl (List.mem_append.2 (.inr hy)))
  · intro y hy
    rcases List.mem_append.1 hy with hy | hy
    · rcases List.mem_cons.1 hy with rfl | hy
      · exact hB
      · exact HO.out.row y (by simpa using hy)
    · exact H.out.foot_base y hy
end Go.Proofs.Ytmjdfglidfdkaaa
