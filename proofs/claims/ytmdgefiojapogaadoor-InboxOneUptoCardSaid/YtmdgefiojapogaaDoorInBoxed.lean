/- boxed of inbox's laws: a box of a row. Conditions: the table of the steps lies in its variable; at most 2^20 entries that may be, one behind the other. -/
import Derived.Test.YtmdgefiojapogaaDoorInChk
import Derived.Test.YtmdgefiojapogaaDoorInRows
namespace Go.Proofs.YtmdgefiojapogaaDoor
open Go.RowKit
attribute [local go_sem high] one8 st8 cm8 b_and8 b_and8r b_and8l b_or8 b_or8r b_or8l b_xor8 b_xor8r b_xor8l b_andNot8 b_andNot8r b_andNot8l b_add8 b_add8r b_add8l b_sub8 b_sub8r b_sub8l b_mul8 b_mul8r b_mul8l b_eql8 b_eql8r b_eql8l b_neq8 b_neq8r b_neq8l b_lss8 b_lss8r b_lss8l b_leq8 b_leq8r b_leq8l b_gtr8 b_gtr8r b_gtr8l b_geq8 b_geq8r b_geq8l b_quo8r b_rem8r b_shl8r b_shr8r b_shl8l b_shr8l u_xor8 g_eql8 g_neq8 g_eql8' g_neq8' one32 st32 cm32 b_and32 b_and32r b_and32l b_or32 b_or32r b_or32l b_xor32 b_xor32r b_xor32l b_andNot32 b_andNot32r b_andNot32l b_add32 b_add32r b_add32l b_sub32 b_sub32r b_sub32l b_mul32 b_mul32r b_mul32l b_eql32 b_eql32r b_eql32l b_neq32 b_neq32r b_neq32l b_lss32 b_lss32r b_lss32l b_leq32 b_leq32r b_leq32l b_gtr32 b_gtr32r b_gtr32l b_geq32 b_geq32r b_geq32l b_quo32r b_rem32r b_shl32r b_shr32r b_shl32l b_shr32l u_xor32 g_eql32 g_neq32 g_eql32' g_neq32' one64 st64 cm64 b_and64 b_and64r b_and64l b_or64 b_or64r b_or64l b_xor64 b_xor64r b_xor64l b_andNot64 b_andNot64r b_andNot64l b_add64 b_add64r b_add64l b_sub64 b_sub64r b_sub64l b_mul64 b_mul64r b_mul64l b_eql64 b_eql64r b_eql64l b_neq64 b_neq64r b_neq64l b_lss64 b_lss64r b_lss64l b_leq64 b_leq64r b_leq64l b_gtr64 b_gtr64r b_gtr64l b_geq64 b_geq64r b_geq64l b_quo64r b_rem64r b_shl64r b_shr64r b_shl64l b_shr64l u_xor64 g_eql64 g_neq64 g_eql64' g_neq64' c_u8_u8 c_u8_u32 c_u8_u64 c_i_u8 c_u32_u8 c_u32_u32 c_u32_u64 c_i_u32 c_u64_u8 c_u64_u32 c_u64_u64 c_i_u64 c_u8_i c_u32_i
attribute [local go_sem ↓] ce8 ce32 ce64
attribute [local go_sem ↓] sliced_slp loadO26 storeO26 loadOEn storeOEn buildZDg buildZEn
/-- The same entries, each with a body of its own. -/
structure Copies (es es' : List Ev) : Prop where
  len : es'.length = es.length
  each : ∀ (i : Nat) (x : Ev), es[i]? = some x → ∃ (z : Ev) (y : SlR), es'[i]? = some z ∧ z.1 = x.1.wb y ∧ y.d = x.1.body.d
theorem Copies.nil : Copies [] [] := ⟨rfl, fun i x h => by simp at h⟩
theorem Copies.snoc {es es' : List Ev} (h : Copies es es') (x z : Ev) (y : SlR) (h1 : z.1 = x.1.wb y) (h2 : y.d = x.1.body.d) : Copies (es ++ [x]) (es' ++ [z]) := by
  refine ⟨by rw [List.length_append, List.length_append, h.len]; rfl, fun i u hu => ?_⟩
  by_cases hi : i < es.length
  · rw [List.getElem?_append_left hi] at hu
    obtain ⟨z', y', k1, k2, k3⟩ := h.each i u hu
    exact ⟨z', y', by rw [List.getElem?_append_left (by rw [h.len]; exact hi)]; exact k1, k2, k3⟩
  · have hi2 : i = es.length := by
      have := (List.getElem?_eq_some_iff.1 hu).1
      simp at this; omega
    subst hi2
    rw [List.getElem?_append_right (Nat.le_refl _), Nat.sub_self] at hu
    injection hu with hu
    subst hu
    exact ⟨z, y, by rw [List.getElem?_append_right (by rw [h.len]; exact Nat.le_refl _), h.len, Nat.sub_self]; rfl, h1, h2⟩
theorem lk_snoc (ks : List Bs) (X : Bs) (j : Nat) (h : j ≤ ks.length) : lk (ks ++ [X]) j = lk ks j := by
  unfold lk
  by_cases h0 : 1 ≤ (j : Int)
  · rw [if_pos ⟨h0, by rw [List.length_append]; simp; omega⟩, if_pos ⟨h0, by omega⟩, List.getD_eq_getElem?_getD, List.getD_eq_getElem?_getD, List.getElem?_append_left (by omega)]
  · rw [if_neg (by omega), if_neg (by omega)]
theorem lk_last (ks : List Bs) (X : Bs) : lk (ks ++ [X]) ((ks.length + 1 : Nat) : Int) = X := by
  unfold lk
  rw [if_pos ⟨by omega, by rw [List.length_append]; simp⟩, show ((ks.length + 1 : Nat) : Int).toNat - 1 = ks.length by omega]
  simp
theorem lk_start (hf : Bs → Bs) (es : List Ev) : ∀ j : Nat, j ≤ 0 → lk [] j = linkI hf (zeros 32) (es.take j) := by
  intro j hj
  obtain rfl : j = 0 := by omega
  rfl
/-- A box of these entries. -/
def BoxOf (hf : Bs → Bs) (es : List Ev) (w : World) (B : Nat) (g : Nat) (w' : World) : Prop :=
  ∃ ve vl es' ks, IsBox w' B g ve vl es' ks ∧ Copies es es' ∧ ∀ j : Nat, j ≤ es.length → lk ks j = linkI hf (zeros 32) (es.take j)
def BoxedPost (hf : Bs → Bs) (es : List Ev) (w : World) (e : Ending) (w' : World) : Prop :=
  ∃ g, e = .returned (.pointer (some ⟨g, 0, none⟩)) ∧ BoxOf hf es w w.heap.size g w' ∧ Mod [] w w'
set_option maxRecDepth 100000 in
theorem boxed_any {hf : Bs → Bs} (p : Option Addr) (c n : Nat) (es : List Ev) (w : World) (hn : n = es.length) (h : Ents w p c es) (hsm : es.length ≤ 1000) (hfi : ∀ x ∈ es, x.1.fine = true) (hbl : ∀ x ∈ es, x.1.body.d.length ≤ 4096)
    (hso : ∀ (i : Nat) (y z : Ev), es[i]? = some y → es[i + 1]? = some z → y.1.time ≤ z.1.time) (H : Hs hf w) :
    Calls Tryd.prog 19 #[.slice p n c] w (BoxedPost hf es w) := by
  have HE := Lib.hid h
  have HH := Lib.hid H
  have HN := Lib.hid hn
  have HFI := Lib.hid hfi
  have HBLN := Lib.hid hbl
  have HSO := Lib.hid hso
  have hn20 : n ≤ 1000 := by omega
  clear h H hn hfi hbl hso hsm
  go_enter Tryd.func19, Tryd.ntmps19
  go_wp2_with fail
  refine (newBox_any w.heap.size w (Nat.le_refl _)).mono ?_
  rintro e w1 ⟨g, rfl, hg, hbx, m1⟩
  have HBX := Lib.hid hbx
  have M1 := Lib.hid m1
  clear hg hbx m1
  go_wp2_with fail
  go_loopw [4] (fun iv wr => ∃ (i : Nat) (ve vl : Value) (es' : List Ev) (ks : List Bs), i ≤ n ∧ iv = .int .i64 i ∧ Hid (IsBox wr w.heap.size g ve vl es' ks ∧ Copies (es.take i) es' ∧ es'.length = i ∧ ∀ j : Nat, j ≤ i → lk ks j = linkI hf (zeros 32) (es.take j)) ∧ Mod [] w wr) (fun iv _ => n - (intOf iv).toNat)
  case atStart => exact ⟨0, _, _, [], [], by omega, rfl, Lib.hid ⟨HBX.out, Copies.nil, rfl, lk_start hf es⟩, M1.out⟩
  case round =>
    clear HBX M1
    obtain ⟨i, ve, vl, es', ks, hi, rfl, HST, hm⟩ := hrel
    have HM := Lib.hid hm
    clear hm
    by_cases hlt : i < n
    · obtain ⟨x, hx⟩ : ∃ x, es[i]? = some x := ⟨es[i]'(by rw [← HN.out]; exact hlt), List.getElem?_eq_getElem _⟩
      have hxm := List.mem_of_getElem? hx
      obtain ⟨hbox, hcp, hel, hlk⟩ := HST.out
      obtain ⟨b, o, hp, hrg⟩ := HE.out.rd.elem evc_len i x hx
      have hL1 := (enAt x.2 (range_mod HM.out hrg (by simp))).ln
      have hea : early es' x.1 = false := by
        by_cases hi0 : i = 0
        · subst hi0
          rw [List.eq_nil_of_length_eq_zero hel]; rfl
        · obtain ⟨m, rfl⟩ : ∃ m, i = m + 1 := ⟨i - 1, by omega⟩
          obtain ⟨y, hy⟩ : ∃ y, es[m]? = some y := ⟨es[m]'(by have := HN.out; omega), List.getElem?_eq_getElem _⟩
          have hyt : (es.take (m + 1))[m]? = some y := by rw [List.getElem?_take, if_pos (by omega)]; exact hy
          obtain ⟨z, yy, hz, hz1, _⟩ := hcp.each m y hyt
          rw [early_get hel hz, hz1]
          have h1 := HSO.out m y x hy hx
          simp only [decide_eq_false_iff_not]
          show ¬ x.1.time < y.1.time
          omega
      have hadd := add_ok (hf := hf) w.heap.size g ve vl es' ks x.1 wr hbox x.2 ((HE.out.body x hxm).mod0 HM.out) (HH.out.mod0 HM.out) (HFI.out x hxm) hea (by omega) (by have := HBLN.out x hxm; omega)
      have HADD := Lib.hid hadd
      have HX := Lib.hid hx
      have HEL := Lib.hid hel
      obtain ⟨xs, hxs⟩ : ∃ xs, xs = x.1.cells.toArray := ⟨_, rfl⟩
      rw [← hxs] at hL1 HADD
      have q0 : (0 : Int) ≤ (i : Int) := by omega
      have q1 : (i : Int) < (n : Int) := by omega
      subst hp
      clear hadd hx hxm hrg hxs hbox hcp hel hlk hea
      go_wp2_with fail
      refine HADD.out.mono ?_
      rintro e w2 ⟨rfl, ve', vl', y, hyd, ⟨z, hz1, hbox', m2⟩⟩
      obtain ⟨hbox, hcp, hel, hlk⟩ := HST.out
      have hli := linkI_succ hf (zeros 32) es i x HX.out
      have hkl : ks.length = i := by rw [hbox.len, hel]
      have hX : nextH hf (lk ks es'.length) x.1 = linkI hf (zeros 32) (es.take (i + 1)) := by rw [hli, hel, hlk i (Nat.le_refl _)]
      rw [hX] at hbox'
      have HNEW := Lib.hid (show IsBox w2 w.heap.size g ve' vl' (es' ++ [z]) (ks ++ [linkI hf (zeros 32) (es.take (i + 1))]) ∧ Copies (es.take (i + 1)) (es' ++ [z]) ∧ (es' ++ [z]).length = i + 1 ∧ ∀ j : Nat, j ≤ i + 1 → lk (ks ++ [linkI hf (zeros 32) (es.take (i + 1))]) j = linkI hf (zeros 32) (es.take j) from by
        refine ⟨hbox', ?_, by rw [List.length_append, hel]; rfl, fun j hj => ?_⟩
        · have e : es.take (i + 1) = es.take i ++ [x] := by rw [List.take_add_one, HX.out]; rfl
          rw [e]
          exact hcp.snoc x z y hz1 hyd
        · by_cases hj2 : j ≤ i
          · rw [lk_snoc ks _ j (by omega)]; exact hlk j hj2
          · have hj3 : j = ks.length + 1 := by omega
            rw [hj3, lk_last, hkl])
      have HM2 := Lib.hid (HM.out.trans m2 (fun q hq => .inr (by
        rcases List.mem_cons.1 hq with rfl | hq
        · exact hbox.base
        · rcases List.mem_append.1 hq with hq | hq
          · rw [Option.mem_toList] at hq; exact hbox.own.row _ hq
          · rw [Option.mem_toList] at hq; exact hbox.links.row _ hq)))
      have hne : ((i : Int) != (i : Int)) = false := by simp
      rw [HEL.out]
      clear hbox' m2 hyd hz1 hbox hcp hel hlk hli hkl hX
      go_wp2_with fail
      go_roundw
      case rel => exact ⟨i + 1, ve', vl', _, _, hlt, by go_num, HNEW.out |> Lib.hid, HM2.out⟩
      case measure => simp [intOf]; omega
    · have hin : i = n := by omega
      have q9 : ¬ ((i : Int) < (n : Int)) := by omega
      have HEND := Lib.hid (show BoxOf hf es w w.heap.size g wr from by
        obtain ⟨hbox, hcp, hel, hlk⟩ := HST.out
        rw [hin, HN.out, List.take_length] at hcp
        rw [hin, HN.out] at hlk
        exact ⟨ve, vl, es', ks, hbox, hcp, hlk⟩)
      go_wp2_with fail
      go_ret
      exact ⟨g, rfl, HEND.out, HM.out⟩
end Go.Proofs.YtmdgefiojapogaaDoor
