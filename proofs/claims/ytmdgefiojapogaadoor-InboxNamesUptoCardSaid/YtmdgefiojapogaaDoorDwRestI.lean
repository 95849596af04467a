/- Number, Bytes, Digest, Address, Done of the document's writer. Condition: at most 2^22 bytes are laid. -/
import Derived.Test.YtmdgefiojapogaaDoorDwFormI
namespace Go.Proofs.YtmdgefiojapogaaDoor
open Go.RowKit
attribute [local go_sem high] one8 st8 cm8 b_and8 b_and8r b_and8l b_or8 b_or8r b_or8l b_xor8 b_xor8r b_xor8l b_andNot8 b_andNot8r b_andNot8l b_add8 b_add8r b_add8l b_sub8 b_sub8r b_sub8l b_mul8 b_mul8r b_mul8l b_eql8 b_eql8r b_eql8l b_neq8 b_neq8r b_neq8l b_lss8 b_lss8r b_lss8l b_leq8 b_leq8r b_leq8l b_gtr8 b_gtr8r b_gtr8l b_geq8 b_geq8r b_geq8l b_quo8r b_rem8r b_shl8r b_shr8r b_shl8l b_shr8l u_xor8 g_eql8 g_neq8 g_eql8' g_neq8' one32 st32 cm32 b_and32 b_and32r b_and32l b_or32 b_or32r b_or32l b_xor32 b_xor32r b_xor32l b_andNot32 b_andNot32r b_andNot32l b_add32 b_add32r b_add32l b_sub32 b_sub32r b_sub32l b_mul32 b_mul32r b_mul32l b_eql32 b_eql32r b_eql32l b_neq32 b_neq32r b_neq32l b_lss32 b_lss32r b_lss32l b_leq32 b_leq32r b_leq32l b_gtr32 b_gtr32r b_gtr32l b_geq32 b_geq32r b_geq32l b_quo32r b_rem32r b_shl32r b_shr32r b_shl32l b_shr32l u_xor32 g_eql32 g_neq32 g_eql32' g_neq32' one64 st64 cm64 b_and64 b_and64r b_and64l b_or64 b_or64r b_or64l b_xor64 b_xor64r b_xor64l b_andNot64 b_andNot64r b_andNot64l b_add64 b_add64r b_add64l b_sub64 b_sub64r b_sub64l b_mul64 b_mul64r b_mul64l b_eql64 b_eql64r b_eql64l b_neq64 b_neq64r b_neq64l b_lss64 b_lss64r b_lss64l b_leq64 b_leq64r b_leq64l b_gtr64 b_gtr64r b_gtr64l b_geq64 b_geq64r b_geq64l b_quo64r b_rem64r b_shl64r b_shr64r b_shl64l b_shr64l u_xor64 g_eql64 g_neq64 g_eql64' g_neq64' c_u8_u8 c_u8_u32 c_u8_u64 c_i_u8 c_u32_u8 c_u32_u32 c_u32_u64 c_i_u32 c_u64_u8 c_u64_u32 c_u64_u64 c_i_u64 c_u8_i c_u32_i
attribute [local go_sem ↓] ce8 ce32 ce64
attribute [local go_sem ↓] sliced_slp
theorem dnumberW_any (B g : Nat) (v : Value) (W : Wr) (w : World) (h : IsV w B g v W) (hk : W.b.length ≤ 4194304) (n : Int) (hn : n ≤ 9223372036854775807) :
    Calls Tryd.prog 79 #[.pointer (some ⟨g, 0, none⟩), .int .i64 n] w (DwPost B g v (W.number n) (.tuple #[]) w) := by
  have H := Lib.hid h
  have c1 := h.c1
  have f1 := h.frz 1
  clear h
  by_cases he : W.e = 0
  · have d0 : (W.e != 0) = false := by simp [he]
    by_cases h0 : n < 0
    · have dn : decide (n < 0) = true := by simpa using h0
      have HW := Lib.hid (show W.number n = { W with e := 32 } by unfold Wr.number; rw [if_pos h0, if_pos he])
      clear he h0
      go_enter Tryd.func79, Tryd.ntmps79
      go_wp2_with fail
      refine bodyPost_ret (results_none rfl _ _ _) rfl ?_
      exact ⟨v, rfl, by rw [HW.out]; exact H.out.setE 32, (Mod.refl _ _).setCell (p := ⟨g, 1, none⟩) (.inl (mem_footB.2 (.inl rfl))) _, fun x hx => .inl hx⟩
    · have dn : decide (n < 0) = false := by simpa using h0
      obtain ⟨m, rfl⟩ : ∃ m : Nat, n = (m : Int) := ⟨n.toNat, by omega⟩
      have HW := Lib.hid (show W.number (m : Int) = W.lay (form m) by unfold Wr.number; rw [if_neg h0, Int.toNat_natCast])
      have HF := Lib.hid (dform_any m w (by omega))
      clear he h0 f1
      go_enter Tryd.func79, Tryd.ntmps79
      go_wp2_with fail
      refine HF.out.mono ?_
      rintro e w1 ⟨r, rfl, ho, m1⟩
      obtain ⟨p, cap, hv, hrd, _⟩ := ho.rd
      subst hv
      have HL := Lib.hid (dlay_any B g v W w1 (H.out.mod0 m1) hk p cap (form m) hrd (by have := form_length m; omega))
      have M1 := Lib.hid m1
      clear ho hrd m1 c1 HF
      go_wp2_with fail
      refine HL.out.mono ?_
      intro e w9 hp
      have hp2 := DwPost.from M1.out hp
      have he := hp.unit
      subst he
      rw [← HW.out] at hp2
      have HP := Lib.hid hp2
      clear hp hp2
      go_wp2_with fail
      go_end0
      exact HP.out
  · have d0 : (W.e != 0) = true := by simpa using he
    have HW := Lib.hid (show W.number n = W by
      unfold Wr.number
      split
      · first | rfl | rw [if_neg he]
      · unfold Wr.lay; rw [if_pos he])
    clear he
    go_enter Tryd.func79, Tryd.ntmps79
    go_wp2_with fail
    refine bodyPost_ret (results_none rfl _ _ _) rfl ?_
    exact ⟨v, rfl, by rw [HW.out]; exact H.out, Mod.refl _ _, fun x hx => .inl hx⟩
theorem dbytesW_any (B g : Nat) (v : Value) (W : Wr) (w : World) (h : IsV w B g v W) (hk : W.b.length ≤ 4194304) (p : Option Addr) (cap : Nat) (l : List UInt8) (hr : Rd V8 w p cap l) (hl : l.length ≤ 549755813888) :
    Calls Tryd.prog 81 #[.pointer (some ⟨g, 0, none⟩), .slice p l.length cap] w (DwPost B g v (W.lay (form l.length ++ l)) (.tuple #[]) w) := by
  have H := Lib.hid h
  have HR := Lib.hid hr
  have HF := Lib.hid (dform_any l.length w (by omega))
  clear h hr
  go_enter Tryd.func81, Tryd.ntmps81
  go_wp2_with fail
  refine HF.out.mono ?_
  rintro e w1 ⟨r, rfl, ho, m1⟩
  have hfl := form_length l.length
  have HO := Lib.hid ho
  have HM1 := Lib.hid m1
  have hsz := m1.size
  obtain ⟨p1, cap1, hv1, _, _⟩ := ho.rd
  clear ho m1 HF
  obtain ⟨f, hf⟩ : ∃ f, f = form l.length := ⟨_, rfl⟩
  rw [← hf] at HO hfl hv1 ⊢
  have HV1 := Lib.hid hv1
  subst hv1
  have HFF := Lib.hid hf
  clear hf
  go_wp2_with (at_builtin; with_reducible refine froz_app _ _ rfl ?_)
  unfold Froz
  refine wpList_pushAll rfl _ _ rfl w.heap.size _ f HO.out rfl p l.length cap l rfl rfl (HR.out.mod0 HM1.out) (by omega) hsz ?_
  intro v2 w2 ho2 hg2
  obtain ⟨x, hx⟩ : ∃ x, x = f ++ l := ⟨_, rfl⟩
  change Own w2 w.heap.size v2 (f ++ l) at ho2
  have hxl : x.length = f.length + l.length := by rw [hx, List.length_append]
  rw [← hx] at ho2
  have HX := Lib.hid hx
  have hm2 : Mod [] w w2 := HM1.out.of_grown hg2 (fun b hb => .inr (HO.out.row b hb))
  obtain ⟨p2, cap2, hv2, hrd2, _⟩ := ho2.rd
  subst hv2
  have HL := Lib.hid (dlay_any B g v W w2 (H.out.mod0 hm2) hk p2 cap2 x hrd2 (by omega))
  have HM2 := Lib.hid hm2
  clear ho2 hg2 hx hm2 hrd2 hxl
  go_wp2_with fail
  refine HL.out.mono ?_
  intro e w9 hp
  have hp2 := DwPost.from HM2.out hp
  have he := hp.unit
  subst he
  have HP := Lib.hid hp2
  clear hp hp2
  go_wp2_with fail
  go_end0
  have hpo := HP.out
  rw [HX.out, HFF.out] at hpo
  exact hpo
end Go.Proofs.YtmdgefiojapogaaDoor
