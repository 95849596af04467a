/- InboxRefuses. Conditions: the three tables lie in their variables; at most 2^20 raw ones. -/
import Derived.Test.YtmdgefiojapogaaDoorInRowsM
import Derived.Test.YtmdgefiojapogaaDoorInKnown
namespace Go.Proofs.YtmdgefiojapogaaDoor
open Go.RowKit
attribute [local go_sem high] one8 st8 cm8 b_and8 b_and8r b_and8l b_or8 b_or8r b_or8l b_xor8 b_xor8r b_xor8l b_andNot8 b_andNot8r b_andNot8l b_add8 b_add8r b_add8l b_sub8 b_sub8r b_sub8l b_mul8 b_mul8r b_mul8l b_eql8 b_eql8r b_eql8l b_neq8 b_neq8r b_neq8l b_lss8 b_lss8r b_lss8l b_leq8 b_leq8r b_leq8l b_gtr8 b_gtr8r b_gtr8l b_geq8 b_geq8r b_geq8l b_quo8r b_rem8r b_shl8r b_shr8r b_shl8l b_shr8l u_xor8 g_eql8 g_neq8 g_eql8' g_neq8' one32 st32 cm32 b_and32 b_and32r b_and32l b_or32 b_or32r b_or32l b_xor32 b_xor32r b_xor32l b_andNot32 b_andNot32r b_andNot32l b_add32 b_add32r b_add32l b_sub32 b_sub32r b_sub32l b_mul32 b_mul32r b_mul32l b_eql32 b_eql32r b_eql32l b_neq32 b_neq32r b_neq32l b_lss32 b_lss32r b_lss32l b_leq32 b_leq32r b_leq32l b_gtr32 b_gtr32r b_gtr32l b_geq32 b_geq32r b_geq32l b_quo32r b_rem32r b_shl32r b_shr32r b_shl32l b_shr32l u_xor32 g_eql32 g_neq32 g_eql32' g_neq32' one64 st64 cm64 b_and64 b_and64r b_and64l b_or64 b_or64r b_or64l b_xor64 b_xor64r b_xor64l b_andNot64 b_andNot64r b_andNot64l b_add64 b_add64r b_add64l b_sub64 b_sub64r b_sub64l b_mul64 b_mul64r b_mul64l b_eql64 b_eql64r b_eql64l b_neq64 b_neq64r b_neq64l b_lss64 b_lss64r b_lss64l b_leq64 b_leq64r b_leq64l b_gtr64 b_gtr64r b_gtr64l b_geq64 b_geq64r b_geq64l b_quo64r b_rem64r b_shl64r b_shr64r b_shl64l b_shr64l u_xor64 g_eql64 g_neq64 g_eql64' g_neq64' c_u8_u8 c_u8_u32 c_u8_u64 c_i_u8 c_u32_u8 c_u32_u32 c_u32_u64 c_i_u32 c_u64_u8 c_u64_u32 c_u64_u64 c_i_u64 c_u8_i c_u32_i
attribute [local go_sem ↓] ce8 ce32 ce64
attribute [local go_sem ↓] sliced_slp loadO26 storeO26 loadOEn storeOEn buildZDg buildZEn buildSlEn
theorem chkF_run (hf : Bs → Bs) (dst k : Bs) (ys : List Ev) (m : Nat) (hm : m ≤ ys.length) (hfi : ∀ (j : Nat) (x : Ev), j < m → ys[j]? = some x → x.1.fine = true)
    (hso : ∀ (j : Nat) (y z : Ev), j + 1 < m → ys[j]? = some y → ys[j + 1]? = some z → y.1.time ≤ z.1.time) : ∀ i : Nat, i ≤ m → chkF hf dst none k (ys.map Subtype.val) = chkF hf dst (prevT ys i) (linkI hf k (ys.take i)) ((ys.drop i).map Subtype.val) := by
  intro i
  induction i with
  | zero => intro _; rfl
  | succ i ih =>
    intro hi
    obtain ⟨x, hx⟩ : ∃ x, ys[i]? = some x := ⟨ys[i]'(by omega), List.getElem?_eq_getElem _⟩
    rw [ih (by omega), chkF_step hf dst _ ys i x hx, hfi i x (by omega) hx, if_pos rfl, linkI_succ hf k ys i x hx]
    have he : earlyP (prevT ys i) x.1 = false := by
      unfold prevT
      by_cases h0 : i = 0
      · rw [if_pos h0]; rfl
      · obtain ⟨j, rfl⟩ : ∃ j, i = j + 1 := ⟨i - 1, by omega⟩
        obtain ⟨y, hy⟩ : ∃ y, ys[j]? = some y := ⟨ys[j]'(by omega), List.getElem?_eq_getElem _⟩
        rw [if_neg h0, Nat.add_sub_cancel, hy]
        have h1 := hso j y x (by omega) hy hx
        simp only [Option.map_some, earlyP, decide_eq_false_iff_not]
        omega
    rw [he]
    simp
theorem Ents.of_row {w : World} {B : Nat} {v : Value} {t : Int} {es : List Ev} (h : RowOf w B v t es) : ∃ p c, v = .slice p es.length c ∧ Ents w p c es := by
  obtain ⟨p, c, hv, hr, _⟩ := h.own.rd
  exact ⟨p, c, hv, hr, fun x hx => own_rd (h.body x hx).1, by have := h.small; omega⟩
theorem RowOf.mod0 {a w : World} {B : Nat} {v : Value} {t : Int} {es : List Ev} (h : RowOf a B v t es) (m : Mod [] a w) : RowOf w B v t es :=
  ⟨h.own.mod0 m, fun x hx => ⟨(h.body x hx).1.mod0 m, (h.body x hx).2⟩, h.fine, h.small, h.last, h.sorted⟩
/-- What Check says of a row that ends in one that is refused. -/
theorem chkF_refused (hf : Bs → Bs) (dst : Bs) (es : List Ev) (x : Ev) (hfi : ∀ y ∈ es, y.1.fine = true) (hso : ∀ (i : Nat) (y z : Ev), es[i]? = some y → es[i + 1]? = some z → y.1.time ≤ z.1.time) (hbad : x.1.fine = false ∨ early es x.1 = true) :
    chkF hf dst none (zeros 32) ((es ++ [x]).map Subtype.val) = if x.1.fine then 153 else 150 := by
  have hn : (es ++ [x])[es.length]? = some x := by rw [List.getElem?_append_right (Nat.le_refl _), Nat.sub_self]; rfl
  have h1 := chkF_run hf dst (zeros 32) (es ++ [x]) es.length (by simp) (fun j y hj hy => by rw [List.getElem?_append_left hj] at hy; exact hfi y (List.mem_of_getElem? hy))
    (fun j y z hj hy hz => by rw [List.getElem?_append_left (by omega)] at hy; rw [List.getElem?_append_left hj] at hz; exact hso j y z hy hz) es.length (Nat.le_refl _)
  rw [h1, chkF_step hf dst _ _ es.length x hn]
  cases hf' : x.1.fine
  · simp
  · have he : earlyP (prevT (es ++ [x]) es.length) x.1 = true := by
      rcases hbad with h | h
      · rw [hf'] at h; cases h
      · unfold prevT
        by_cases h0 : es.length = 0
        · rw [List.eq_nil_of_length_eq_zero h0] at h; cases h
        · obtain ⟨m, hm⟩ : ∃ m, es.length = m + 1 := ⟨es.length - 1, by omega⟩
          obtain ⟨y, hy⟩ : ∃ y, es[m]? = some y := ⟨es[m]'(by omega), List.getElem?_eq_getElem _⟩
          rw [early_get hm hy] at h
          rw [if_neg h0, hm, Nat.add_sub_cancel, List.getElem?_append_left (by omega), hy]
          exact h
    rw [he]
    simp
theorem wpList_pushE {ops : Array Oper} {rest : List Oper} {o : Oper} {a : Act} {Q : Exit → Act → World → Prop} {w : World} (hgd : o.guard = none) (so x : Operand)
    (ho : o.op = .call { callee := .builtin .append, args := #[so, x], argTypes := #[25, 25] })
    (B : Nat) (v : Value) (l : List Ev) (hown : OwnEn w B v l) (hs : a.eval so = v) (b : Nat) (d : Ev) (hx : a.eval x = .slice (some ⟨b, 0, none⟩) 1 1)
    (hr : w.heap[b]? = some (.cells d.1.cells.toArray 35)) (hlen : l.length ≤ 1048577) (hbase : B ≤ w.heap.size)
    (h : ∀ v' w', OwnEn w' B v' (l ++ [d]) → w.grownBy w' v.ownBlock → wpList Tryd.prog ops Q rest (a.put o.dst v') w') : wpList Tryd.prog ops Q (o :: rest) a w :=
  wpList_pushN (.agg zeroEn.cells.toArray) 136 Tryd.underlying25 infoEnZ (by simp [Value.cells, En.cells_len zeroEn_ln]) (by decide) evc_len evc_one hgd so x ho B v l hown hs b 0 1 1 [d] hx rfl (range_blk hr 0 _ (fun j v hv => by simpa [evc] using hv)) (by unfold maxLen; simp; omega) (by simp; omega) hbase h
set_option maxRecDepth 100000 in
set_option maxHeartbeats 4000000 in
theorem refuses_law {hf : Bs → Bs} (p : Option Addr) (c n : Nat) (rs : List Rv) (x : En) (w : World) (hn : n = rs.length) (h : Raws w p c rs) (hl : x.Ln) (hr : Rd V8 w x.body.p x.body.cap x.body.d) (hb : x.body.d.length ≤ 1048576) (H : Hs hf w) (R : Rf w) :
    Calls Tryd.prog 5 #[.slice p n c, .agg x.cells.toArray] w fun e w' => e = .returned (.bool true) ∧ Mod [] w w' := by
  have M1 := Lib.hid ((Mod.refl [] w).alloc (.cells x.cells.toArray 35))
  have HKN := Lib.hid (known_any _ (H.mod0 M1.out) (R.mod0 M1.out))
  have HRW := Lib.hid (fun (V : World) (m : Mod [] w V) => row_any p c n rs V hn ⟨h.rd.mod0 m, fun r hr => (h.body r hr).mod0 m, h.ints, h.small, h.bl⟩)
  have HBX := Lib.hid (hp_new w (.cells x.cells.toArray 35) _ rfl)
  have HH := Lib.hid H
  have HRF := Lib.hid R
  have HXL := Lib.hid hl
  have HXR := Lib.hid hr
  have HXB := Lib.hid hb
  obtain ⟨cs, hcs⟩ : ∃ cs, cs = x.cells.toArray := ⟨_, rfl⟩
  rw [← hcs] at M1 HKN HBX ⊢
  have HCS := Lib.hid hcs
  clear hn h hl hr hb H R hcs
  go_enter Tryd.func5, Tryd.ntmps5
  go_wp2_with fail
  refine HKN.out.mono ?_
  rintro e w2 ⟨rfl, m2⟩
  have M2 := Lib.hid m2
  clear m2
  go_wp2_with fail
  refine (HRW.out w2 (M1.out.trans0 M2.out)).mono ?_
  rintro e w3 ⟨v, t, es, rfl, hro, m3⟩
  obtain ⟨pv, cv, rfl, hents⟩ := Ents.of_row hro
  have HRO := Lib.hid hro
  have M3 := Lib.hid m3
  obtain ⟨l, hll⟩ : ∃ l, l = es.length := ⟨_, rfl⟩
  have HBO := Lib.hid (boxed_any (hf := hf) pv cv l es w3 hll hents (by have := hro.small; omega) hro.fine (fun y hy => (hro.body y hy).2) hro.sorted (HH.out.mod0 ((M1.out.trans0 M2.out).trans0 m3)))
  have hl100 : l ≤ 100 := by rw [hll]; exact hro.small
  rw [← hll]
  have HLL := Lib.hid hll
  clear hro m3 hents hll
  go_wp2_with fail
  refine HBO.out.mono ?_
  rintro e w4 ⟨g, rfl, hbo, m4⟩
  obtain ⟨ve, vl, es', ks, hbox, hcp, hlk⟩ := hbo
  have HBOX := Lib.hid hbox
  have HCP := Lib.hid hcp
  have HLK := Lib.hid hlk
  have M4 := Lib.hid m4
  have hle : es'.length = l := by rw [hcp.len, HLL.out]
  have HLE := Lib.hid hle
  have HLA := Lib.hid (link_any _ g ve vl es' ks w4 hbox l)
  rw [hle, show lkE l l = 0 by unfold lkE; rw [if_pos (by omega)]] at HLA
  obtain ⟨L, hL⟩ : ∃ L, L = lk ks l := ⟨_, rfl⟩
  rw [← hL] at HLA
  have HL32 := Lib.hid (show L.length = 32 from by rw [hL]; exact lk_len hbox.k32 _)
  have HLQ := Lib.hid hL
  clear hbox hcp hlk m4 hle hL
  go_wp2_with fail
  refine HLA.out.mono ?_
  rintro e w5 ⟨rfl, m5⟩
  have hS5 := storeNewD w5 L HL32.out
  have M6 := Lib.hid (m5.alloc (.cells (L.map V8).toArray 24))
  have HB7 := Lib.hid (hp_new w5 (.cells (L.map V8).toArray 24) _ rfl)
  have M36 := Lib.hid ((M4.out).trans0 M6.out)
  have MX := Lib.hid ((M2.out.trans0 M3.out).trans0 M36.out)
  have hbx := MX.out.get0 HBX.out
  rw [HCS.out] at hbx
  have hLx := (enBox HXL.out hbx).ln
  have hTx := (enBox HXL.out hbx).c21
  rw [← HCS.out] at hLx
  have HCK := Lib.hid (rcheck_any x (w5.alloc (.cells (L.map V8).toArray 24)) HXL.out)
  rw [← HCS.out] at HCK
  clear m5 hbx
  go_wp2_with fail
  refine HCK.out.mono ?_
  rintro e w7 ⟨rfl, m7⟩
  obtain ⟨b7, hb7⟩ : ∃ b7, b7 = w5.heap.size := ⟨_, rfl⟩
  obtain ⟨w6, hw6⟩ : ∃ w6, w6 = w5.alloc (.cells (L.map V8).toArray 24) := ⟨_, rfl⟩
  rw [← hw6] at m7 M6 HB7 M36 MX
  rw [← hb7] at HB7 ⊢
  have M7 := Lib.hid m7
  clear hb7 hw6 hS5 hLx hTx m7
  obtain ⟨Bd, hBd⟩ : ∃ Bd, Bd = !x.fine := ⟨_, rfl⟩
  have hbd : (x.chk != 0) = Bd := by rw [hBd]; unfold En.chk; cases x.fine <;> rfl
  obtain ⟨E, hE⟩ : ∃ E, E = early es x := ⟨_, rfl⟩
  have HBd := Lib.hid hBd
  have HE := Lib.hid hE
  have MW := Lib.hid (show Mod [] w3 w7 from M36.out.trans0 M7.out)
  have MXW := Lib.hid (show Mod [] (w.alloc (.cells cs 35)) w7 from MX.out.trans0 M7.out)
  have t1 : w7.drew.cell? ⟨w.heap.size, 21, none⟩ = some (.int .i64 x.time) := by
    have h := MXW.out.get0 HBX.out
    rw [HCS.out] at h
    exact (enBox HXL.out h).c21
  clear hBd hE
  go_upto_region 9 with fail
  clear hbd
  go_cut [10] from 39 to 53 (fun v wx => v = .bool E ∧ wx = w7.drew)
  case first =>
    obtain ⟨p3, c3, e3, hents⟩ := Ents.of_row HRO.out
    injection e3 with e31 _ e33
    subst e31 e33
    by_cases hl0 : l = 0
    · have he : E = false := by rw [HE.out, List.eq_nil_of_length_eq_zero (HLL.out.symm.trans hl0)]; rfl
      subst he hl0
      go_region
      go_wp2_with fail
      go_meet
      case rel => exact ⟨rfl, rfl⟩
    · obtain ⟨m, hm⟩ : ∃ m, l = m + 1 := ⟨l - 1, by omega⟩
      obtain ⟨y, hy⟩ : ∃ y, es[m]? = some y := ⟨es[m]'(by have := HLL.out; omega), List.getElem?_eq_getElem _⟩
      have he : E = decide (x.time < y.1.time) := by rw [HE.out]; exact early_get (HLL.out.symm.trans hm) hy
      obtain ⟨b, o, hp, hrg⟩ := hents.rd.elem evc_len m y hy
      have t2 : w7.drew.cell? ⟨b, o + m * 49 + 21, none⟩ = some (.int .i64 y.1.time) := (enAt y.2 (range_mod MW.out.drew hrg (by simp))).c21
      have he2 : decide (x.time < y.1.time) = E := he.symm
      subst hp hm
      have q2 : (0 : Int) < (m : Int) + 1 := by omega
      have q3 : (0 : Int) ≤ (m : Int) := by omega
      have q4 : (m : Int) < (m : Int) + 1 := by omega
      clear hy he hrg hl0 hents
      go_region
      all_goals
        go_wp2_with fail
        go_meet
        case rel => exact ⟨rfl, rfl⟩
  case rest =>
    obtain ⟨rfl, hwc⟩ := hcut
    have hwc2 := hwc.symm
    clear hwc t1
    subst hwc2
    go_upto_region 10 with fail
    go_cut [59] from 54 to 58 (fun v wx => v = .bool (!Bd && !E) ∧ wx = w7.drew)
    case first =>
      cases Bd
      · cases E
        · go_wp2_with fail
          go_meet
          case rel => exact ⟨rfl, rfl⟩
        · go_wp2_with fail
          go_meet
          case rel => exact ⟨rfl, rfl⟩
      · go_wp2_with fail
        go_meet
        case rel => exact ⟨rfl, rfl⟩
    case rest =>
    obtain ⟨rfl, hwc⟩ := hcut
    have hwc2 := hwc.symm
    clear hwc
    subst hwc2
    go_upto_if 59 with fail
    go_cut [] from 60 to 68 (fun wx => (Bd = true ∨ E = true) ∧ wx = w7.drew)
    case first =>
      cases Bd
      · cases E
        · have HLN := Lib.hid (boxLen_any _ g ve vl es' ks w7.drew (HBOX.out.mod0 ((M6.out.trans0 M7.out).drew)))
          rw [HLE.out] at HLN
          have HMF := Lib.hid (M1.out.trans0 MXW.out.drew)
          have hll : ((l : Int) == (l : Int)) = true := by simp
          go_wp2_with fail
          refine HLN.out.mono ?_
          rintro e w' ⟨rfl, rfl⟩
          go_wp2_with fail
          go_ret
          exact ⟨rfl, HMF.out⟩
        · go_wp2_with fail
          go_meet
          case rel => exact ⟨by simp, rfl⟩
      · cases E
        · go_wp2_with fail
          go_meet
          case rel => exact ⟨by simp, rfl⟩
        · go_wp2_with fail
          go_meet
          case rel => exact ⟨by simp, rfl⟩
    case rest =>
      obtain ⟨hBE, hwc⟩ := hcut
      have hwc2 := hwc.symm
      clear hwc
      subst hwc2
      obtain ⟨W, hW⟩ : ∃ W : Int, W = if x.fine then 153 else 150 := ⟨_, rfl⟩
      have HW := Lib.hid hW
      have HBE := Lib.hid hBE
      clear hW hBE
      go_upto_if 70 with fail
      go_cut [11] from 71 to 71 (fun v wx => v = .int .i64 W ∧ wx = w7.drew)
      case first =>
        cases Bd
        · have hw : W = 153 := by
            have h := HBd.out
            rw [HW.out]
            cases hf' : x.fine
            · rw [hf'] at h; cases h
            · rfl
          subst hw
          go_wp2_with fail
          go_meet
          case rel => exact ⟨rfl, rfl⟩
        · have hw : W = 150 := by
            have h := HBd.out
            rw [HW.out]
            cases hf' : x.fine
            · rfl
            · rw [hf'] at h; cases h
          subst hw
          go_wp2_with fail
          go_meet
          case rel => exact ⟨rfl, rfl⟩
      case rest =>
        obtain ⟨rfl, hwc⟩ := hcut
        have hwc2 := hwc.symm
        clear hwc
        subst hwc2
        have HB0 := Lib.hid (HBOX.out.mod0 ((M6.out.trans0 M7.out).drew))
        have hbe : x.fine = false ∨ early es x = true := by
          rcases HBE.out with h | h
          · left
            have h2 := HBd.out
            rw [h] at h2
            cases hf' : x.fine
            · rfl
            · rw [hf'] at h2; cases h2
          · right; rw [← HE.out]; exact h
        have hee : early es' x = early es x := by
          by_cases h0 : es.length = 0
          · have h1 := HCP.out.len
            rw [h0] at h1
            rw [List.eq_nil_of_length_eq_zero h0, List.eq_nil_of_length_eq_zero h1]
          · obtain ⟨m, hm⟩ : ∃ m, es.length = m + 1 := ⟨es.length - 1, by omega⟩
            obtain ⟨y, hy⟩ : ∃ y, es[m]? = some y := ⟨es[m]'(by omega), List.getElem?_eq_getElem _⟩
            obtain ⟨z, yy, hz, hz1, _⟩ := HCP.out.each m y hy
            rw [early_get hm hy, early_get (HCP.out.len.trans hm) hz, hz1]
            rfl
        have HADD := Lib.hid (show Calls Tryd.prog 23 #[.pointer (some ⟨g, 0, none⟩), .agg cs] w7.drew fun e w' => e = .returned (.tuple #[.int .i64 0, .int .i64 W]) ∧ Mod [] w7.drew w' from by
          rw [HCS.out]
          have hr2 := HXR.out.mod0 (M1.out.trans0 MXW.out.drew)
          have hh2 := HH.out.mod0 (M1.out.trans0 MXW.out.drew)
          cases hf' : x.fine
          · have hw : W = 150 := by rw [HW.out, hf']; rfl
            rw [hw]
            exact add_bad (hf := hf) _ g ve vl es' ks x _ HB0.out HXL.out hr2 hh2 hf'
          · have hw : W = 153 := by rw [HW.out, hf']; rfl
            rw [hw]
            exact add_early (hf := hf) _ g ve vl es' ks x _ HB0.out HXL.out hr2 hh2 hf' (by
              rw [hee]
              rcases hbe with h | h
              · rw [hf'] at h; cases h
              · exact h))
        have HBE2 := Lib.hid hbe
        have hxb := MXW.out.drew.get0 HBX.out
        rw [HCS.out] at hxb
        have hLx := (enBox HXL.out hxb).ln
        rw [← HCS.out] at hLx
        clear hbe hee hxb
        go_wp2_with fail
        refine HADD.out.mono ?_
        rintro e w8 ⟨rfl, m8⟩
        have HB8 := Lib.hid (HB0.out.mod0 m8)
        have M8 := Lib.hid (MXW.out.drew.trans0 m8)
        have MB8 := Lib.hid (M7.out.drew.trans0 m8)
        have hla := link_any _ g ve vl es' ks w8 HB8.out l
        rw [HLE.out, show lkE l l = 0 by unfold lkE; rw [if_pos (by omega)], ← HLQ.out] at hla
        have HLA2 := Lib.hid hla
        have M83 := Lib.hid (MW.out.drew.trans0 m8)
        clear m8 hla hLx
        go_wp2_with fail
        refine HLA2.out.mono ?_
        rintro e w9 ⟨rfl, m9⟩
        have hS9 := storeNewD w9 L HL32.out
        have M10 := Lib.hid (m9.alloc (.cells (L.map V8).toArray 24))
        have HB14 := Lib.hid (hp_new w9 (.cells (L.map V8).toArray 24) _ rfl)
        have HB10 := Lib.hid (HB8.out.mod0 M10.out)
        have HEN := Lib.hid (entry_any _ g ve vl es' ks _ HB10.out l)
        clear m9
        go_wp2_with fail
        refine HEN.out.mono ?_
        rintro e w11 ⟨x', hxl', rfl, hx', m11⟩
        have hif : ¬ ((0 : Int) ≤ (l : Int) ∧ (l : Int) < (es'.length : Int)) := by rw [HLE.out]; omega
        rw [if_neg hif] at hx'
        rw [if_neg hif]
        have hS11 := storeNewEn w11 x' hxl'
        have M12 := Lib.hid (m11.alloc (.cells x'.cells.toArray 35))
        obtain ⟨xs', hxs'⟩ : ∃ xs', xs' = x'.cells.toArray := ⟨_, rfl⟩
        rw [← hxs'] at hS11 M12 ⊢
        clear m11 hif hx' hxs' hxl'
        go_wp2_with fail
        obtain ⟨w12, hw12⟩ : ∃ w12, w12 = w11.alloc (.cells xs' 35) := ⟨_, rfl⟩
        rw [← hw12] at M12 ⊢
        obtain ⟨b14, hb14⟩ : ∃ b14, b14 = w9.heap.size := ⟨_, rfl⟩
        rw [← hb14] at HB14 ⊢
        have MO := Lib.hid (show Mod [] w3 w12 from (M83.out.trans0 M10.out).trans0 M12.out)
        have MXO := Lib.hid (show Mod [] (w.alloc (.cells cs 35)) w12 from (M8.out.trans0 M10.out).trans0 M12.out)
        have MBO := Lib.hid (show Mod [] w6 w12 from (MB8.out.trans0 M10.out).trans0 M12.out)
        clear hw12 hb14 hS9 hS11
        go_loopw [18, 19] (fun yv iv wr => ∃ i : Nat, i ≤ l ∧ iv = .int .i64 i ∧ Hid (OwnEn wr w12.heap.size yv (es.take i)) ∧ Mod [] w12 wr) (fun _ iv _ => l - (intOf iv).toNat)
        case atStart => exact ⟨0, by omega, rfl, Lib.hid (OwnN.nil _ _ _ _ _), Mod.refl _ _⟩
        case round =>
          obtain ⟨i, hi, rfl, HOY, hm⟩ := hrel
          have HM := Lib.hid hm
          clear hm
          obtain ⟨p3, c3, e3, hents⟩ := Ents.of_row HRO.out
          injection e3 with e31 _ e33
          subst e31 e33
          have HEN := Lib.hid hents
          have hlen := HLL.out
          by_cases hlt : i < l
          · obtain ⟨y, hy⟩ : ∃ y, es[i]? = some y := ⟨es[i]'(by rw [← hlen]; exact hlt), List.getElem?_eq_getElem _⟩
            obtain ⟨b, o, hp, hrg⟩ := hents.rd.elem evc_len i y hy
            have hL1 := (enAt y.2 (range_mod (MO.out.trans0 HM.out) hrg (by simp))).ln
            have hBS := run_buildEn wr y.1 y.2
            have hbn := hp_new wr (.cells y.1.cells.toArray 35) _ rfl
            obtain ⟨ys, hys⟩ : ∃ ys, ys = y.1.cells.toArray := ⟨_, rfl⟩
            rw [← hys] at hL1 hBS
            have HBN := Lib.hid hbn
            have HYS := Lib.hid hys
            have HY := Lib.hid hy
            have q0 : (0 : Int) ≤ (i : Int) := by omega
            have q1 : (i : Int) < (l : Int) := by omega
            have htl : (es.take i).length ≤ 1048577 := by rw [List.length_take]; omega
            subst hp
            clear hents hrg hbn hys hy hlen
            go_wp2_with (at_builtin; with_reducible refine froz_app _ _ rfl ?_)
            unfold Froz
            refine wpList_pushE rfl _ _ rfl w12.heap.size u18 (es.take i) (HOY.out.alloc _) rfl wr.heap.size y rfl (by rw [HYS.out]; exact HBN.out) htl (Nat.le_trans HM.out.size (by rw [alloc_hs]; exact Nat.le_succ _)) ?_
            intro v' w' ho hg
            have HO := Lib.hid (show OwnEn w' w12.heap.size v' (es.take (i + 1)) from by
              have e : es.take (i + 1) = es.take i ++ [y] := by rw [List.take_add_one, HY.out]; rfl
              rw [e]; exact ho)
            have HG := Lib.hid ((HM.out.alloc (.cells ys 35)).of_grown hg (fun z hz => .inr (HOY.out.row z hz)))
            clear ho hg
            go_wp2_with fail
            go_roundw
            case rel => exact ⟨i + 1, hlt, by go_num, HO.out |> Lib.hid, HG.out⟩
            case measure => simp [intOf]; omega
          · have hil : i = l := by omega
            have q9 : ¬ ((i : Int) < (l : Int)) := by omega
            have hoy := HOY.out
            rw [hil, hlen, List.take_length] at hoy
            have HOY2 := Lib.hid hoy
            have hxb := (MXO.out.trans0 HM.out).get0 HBX.out
            rw [HCS.out] at hxb
            have hLx := (enBox HXL.out hxb).ln
            have hBS := run_buildEn wr x HXL.out
            have hbn := hp_new wr (.cells x.cells.toArray 35) _ rfl
            rw [← HCS.out] at hLx hBS
            have HBN := Lib.hid hbn
            have hel : es.length ≤ 1048577 := by omega
            clear hoy hxb hbn hents hlen
            go_wp2_with (at_builtin; with_reducible refine froz_app _ _ rfl ?_)
            unfold Froz
            refine wpList_pushE rfl _ _ rfl w12.heap.size u18 es (HOY2.out.alloc _) rfl wr.heap.size ⟨x, HXL.out⟩ rfl (by rw [HCS.out]; exact HBN.out) hel (Nat.le_trans HM.out.size (by rw [alloc_hs]; exact Nat.le_succ _)) ?_
            intro v' w' ho hg
            obtain ⟨qv, qc, hqv, hqr, _⟩ := ho.rd
            have MG := Lib.hid ((HM.out.alloc (.cells cs 35)).of_grown hg (fun z hz => .inr (HOY2.out.row z hz)))
            have HENT := Lib.hid (show Ents w' qv qc (es ++ [(⟨x, HXL.out⟩ : Ev)]) from ⟨hqr, fun q hq => by
              rcases List.mem_append.1 hq with hq | hq
              · exact (HEN.out.body q hq).mod0 (MO.out.trans0 MG.out)
              · rw [List.mem_singleton.1 hq]
                exact HXR.out.mod0 (M1.out.trans0 (MXO.out.trans0 MG.out)), by have := HRO.out.small; rw [List.length_append]; simp; omega⟩)
            subst hqv
            obtain ⟨u, hu⟩ : ∃ u, u = (es ++ [(⟨x, HXL.out⟩ : Ev)]).length := ⟨_, rfl⟩
            rw [← hu]
            have HLEN := Lib.hid (boxLen_any _ g ve vl es' ks w' (HB10.out.mod0 (M12.out.trans0 MG.out)))
            rw [HLE.out] at HLEN
            have hL7 := loadDv L HL32.out ((MBO.out.trans0 MG.out).get0 HB7.out)
            have hL14 := loadDv L HL32.out ((M12.out.trans0 MG.out).get0 HB14.out)
            have hEQ := fun w => eqD w L L HL32.out HL32.out
            have hEG := eqGuardD
            have hXX : (L == L) = true := by simp
            simp only [hXX] at hEQ
            have hWW : (W == W) = true := by simp
            have hll : ((l : Int) == (l : Int)) = true := by simp
            have bz : ∀ w, (BuildZ 24 #[]).run Tryd.prog w = .ok (dv (zeros 32)) w := fun w => run_buildZ w 24 #[] _ builtDg
            have hchk := check_in (hf := hf) (zeros 32) L (zeros_length 32) HL32.out qv qc u _ w' hu HENT.out (HH.out.mod0 (M1.out.trans0 (MXO.out.trans0 MG.out)))
            rw [chkF_refused hf L es ⟨x, HXL.out⟩ HRO.out.fine HRO.out.sorted HBE2.out, ← HW.out] at hchk
            have HCHK := Lib.hid hchk
            have HMF := Lib.hid (M1.out.trans0 (MXO.out.trans0 MG.out))
            clear ho hg hqr hu hXX hchk hLx hBS
            go_wp2_with fail
            refine HLEN.out.mono ?_
            rintro e w'' ⟨rfl, rfl⟩
            go_wp2_with fail
            refine HCHK.out.mono ?_
            rintro e w20 ⟨rfl, m20⟩
            have HM20 := Lib.hid (HMF.out.trans0 m20)
            clear m20
            go_wp2_with fail
            go_ret
            exact ⟨rfl, HM20.out⟩
end Go.Proofs.YtmdgefiojapogaaDoor
