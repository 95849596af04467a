/- slices.Equal over bytes; alike of inbox. Condition: at most 2^40 bytes. -/
import Derived.Test.YtmdgefiojapogaaDoorInSame
import Derived.Test.YtmdgefiojapogaaDoorInChk
import Derived.Test.YtmdgefiojapogaaDoorLawInShowsM
import Derived.StillTailTactics
namespace Go.Proofs.YtmdgefiojapogaaDoor
open Go.RowKit
attribute [local go_sem high] one8 st8 cm8 b_and8 b_and8r b_and8l b_or8 b_or8r b_or8l b_xor8 b_xor8r b_xor8l b_andNot8 b_andNot8r b_andNot8l b_add8 b_add8r b_add8l b_sub8 b_sub8r b_sub8l b_mul8 b_mul8r b_mul8l b_eql8 b_eql8r b_eql8l b_neq8 b_neq8r b_neq8l b_lss8 b_lss8r b_lss8l b_leq8 b_leq8r b_leq8l b_gtr8 b_gtr8r b_gtr8l b_geq8 b_geq8r b_geq8l b_quo8r b_rem8r b_shl8r b_shr8r b_shl8l b_shr8l u_xor8 g_eql8 g_neq8 g_eql8' g_neq8' one32 st32 cm32 b_and32 b_and32r b_and32l b_or32 b_or32r b_or32l b_xor32 b_xor32r b_xor32l b_andNot32 b_andNot32r b_andNot32l b_add32 b_add32r b_add32l b_sub32 b_sub32r b_sub32l b_mul32 b_mul32r b_mul32l b_eql32 b_eql32r b_eql32l b_neq32 b_neq32r b_neq32l b_lss32 b_lss32r b_lss32l b_leq32 b_leq32r b_leq32l b_gtr32 b_gtr32r b_gtr32l b_geq32 b_geq32r b_geq32l b_quo32r b_rem32r b_shl32r b_shr32r b_shl32l b_shr32l u_xor32 g_eql32 g_neq32 g_eql32' g_neq32' one64 st64 cm64 b_and64 b_and64r b_and64l b_or64 b_or64r b_or64l b_xor64 b_xor64r b_xor64l b_andNot64 b_andNot64r b_andNot64l b_add64 b_add64r b_add64l b_sub64 b_sub64r b_sub64l b_mul64 b_mul64r b_mul64l b_eql64 b_eql64r b_eql64l b_neq64 b_neq64r b_neq64l b_lss64 b_lss64r b_lss64l b_leq64 b_leq64r b_leq64l b_gtr64 b_gtr64r b_gtr64l b_geq64 b_geq64r b_geq64l b_quo64r b_rem64r b_shl64r b_shr64r b_shl64l b_shr64l u_xor64 g_eql64 g_neq64 g_eql64' g_neq64' c_u8_u8 c_u8_u32 c_u8_u64 c_i_u8 c_u32_u8 c_u32_u32 c_u32_u64 c_i_u32 c_u64_u8 c_u64_u32 c_u64_u64 c_i_u64 c_u8_i c_u32_i
attribute [local go_sem ↓] ce8 ce32 ce64
attribute [local go_sem ↓] sliced_slp loadOAd storeOAd loadOWd storeOWd
set_option maxRecDepth 100000 in
theorem equalB_len (p q : Option Addr) (cp cq n : Nat) (a b : Bs) (w : World) (hn : n = a.length) (hp : Rd V8 w p cp a) (hq : Rd V8 w q cq b) (hl : n ≤ 1099511627776) (he : n = b.length) :
    Calls Tryd.prog 67 #[.slice p n cp, .slice q n cq] w fun e w' => e = .returned (.bool (a == b)) ∧ Mod [] w w' := by
  have HP := Lib.hid hp
  have HQ := Lib.hid hq
  have HE := Lib.hid he
  have HN := Lib.hid hn
  obtain ⟨r, hr⟩ : ∃ r, r = (a == b) := ⟨_, rfl⟩
  have HR := Lib.hid hr
  rw [← hr]
  have hne : ((n : Int) != (n : Int)) = false := by simp
  clear hp hq he hr hn
  go_enter Tryd.func67, Tryd.ntmps67
  go_wp2_with fail
  go_loopw [13] (fun iv wr => ∃ k : Nat, k ≤ n ∧ iv = .int .i64 k ∧ a.take k = b.take k ∧ Mod [] w wr) (fun iv _ => n - (intOf iv).toNat)
  case atStart => exact ⟨0, by omega, rfl, rfl, Mod.refl _ _⟩
  case round =>
    obtain ⟨k, hk, rfl, ht, hm⟩ := hrel
    have HT := Lib.hid ht
    have HM := Lib.hid hm
    clear ht hm
    by_cases hlt : k < n
    · obtain ⟨x, hx⟩ : ∃ x, a[k]? = some x := ⟨a[k]'(by rw [← HN.out]; exact hlt), List.getElem?_eq_getElem _⟩
      obtain ⟨y, hy⟩ : ∃ y, b[k]? = some y := ⟨b[k]'(by rw [← HE.out]; exact hlt), List.getElem?_eq_getElem _⟩
      obtain ⟨b1, o1, rfl, hr1⟩ := (HP.out.mod0 HM.out).cell k x hx
      obtain ⟨b2, o2, rfl, hr2⟩ := (HQ.out.mod0 HM.out).cell k y hy
      have HX := Lib.hid hx
      have HY := Lib.hid hy
      clear hx hy
      by_cases hxy : x = y
      · subst hxy
        go_wp2_with fail
        go_quiet (fail)
        have HM2 := Lib.hid (HM.out.drewN nq)
        go_wp2_with fail
        go_roundw
        case rel => exact ⟨k + 1, by omega, by go_num, by rw [List.take_add_one, List.take_add_one, HX.out, HY.out, HT.out], HM2.out⟩
        case measure => simp [intOf]; omega
      · have hd : (x != y) = true := by simpa using hxy
        have HXY := Lib.hid hxy
        clear hxy
        go_wp2_with fail
        go_quiet (fail)
        have HM2 := Lib.hid (HM.out.drewN nq)
        go_wp2_with fail
        go_ret
        refine ⟨?_, HM2.out⟩
        have : r = false := by
          rw [HR.out, beq_eq_false_iff_ne]
          intro h
          have h1 := HX.out
          rw [h, HY.out] at h1
          exact HXY.out (Option.some.inj h1).symm
        rw [this]; rfl
    · have hd : decide ((k : Int) < (n : Int)) = false := by simp; omega
      go_wp2_with fail
      go_ret
      refine ⟨?_, HM.out⟩
      have : r = true := by
        rw [HR.out, beq_iff_eq]
        have h := HT.out
        rwa [List.take_of_length_le (by rw [← HN.out]; omega), List.take_of_length_le (by rw [← HE.out]; omega)] at h
      rw [this]; rfl
theorem equalB_any (p q : Option Addr) (cp cq n m : Nat) (a b : Bs) (w : World) (hn : n = a.length) (hm : m = b.length) (hp : Rd V8 w p cp a) (hq : Rd V8 w q cq b) (hl : n ≤ 1099511627776) :
    Calls Tryd.prog 67 #[.slice p n cp, .slice q m cq] w fun e w' => e = .returned (.bool (a == b)) ∧ Mod [] w w' := by
  by_cases he : n = m
  · subst he
    exact equalB_len p q cp cq n a b w hn hp hq hl hm
  · have hr : (a == b) = false := by rw [beq_eq_false_iff_ne]; rintro rfl; exact he (by omega)
    rw [hr]
    have hd : ((n : Int) != (m : Int)) = true := by simp only [bne_iff_ne, ne_eq]; omega
    clear hp hq
    go_enter Tryd.func67, Tryd.ntmps67
    go_wp2_with fail
    go_ret
    exact ⟨rfl, Mod.refl _ _⟩
set_option maxRecDepth 100000 in
theorem alike_0 (a b : En) (w : World) (ha : a.Ln) (hb : b.Ln) (ra : Rd V8 w a.body.p a.body.cap a.body.d) (rb : Rd V8 w b.body.p b.body.cap b.body.d) (hbl : a.body.d.length ≤ 1099511627776) (hB : (a.body.d == b.body.d) = false) : Calls Tryd.prog 50 #[.agg a.cells.toArray, .agg b.cells.toArray] w fun e w' => e = .returned (.bool false) ∧ Mod [] w w' := by
  have B1 := Lib.hid (hp_old (o := .cells b.cells.toArray 35) (hp_new w (.cells a.cells.toArray 35) _ rfl))
  have B2 := Lib.hid (hp_new (w.alloc (.cells a.cells.toArray 35)) (.cells b.cells.toArray 35) (w.heap.size + 1) (by simp))
  have ba : ((w.alloc (.cells a.cells.toArray 35)).alloc (.cells b.cells.toArray 35)).cell? ⟨w.heap.size, 48, none⟩ = some (.slice a.body.p a.body.d.length a.body.cap) := (enBox ha B1.out).c48
  have bb : ((w.alloc (.cells a.cells.toArray 35)).alloc (.cells b.cells.toArray 35)).cell? ⟨w.heap.size + 1, 48, none⟩ = some (.slice b.body.p b.body.d.length b.body.cap) := (enBox hb B2.out).c48
  have HM := Lib.hid (((Mod.refl [] w).alloc (.cells a.cells.toArray 35)).alloc (.cells b.cells.toArray 35))
  obtain ⟨na, hna⟩ : ∃ na, na = a.body.d.length := ⟨_, rfl⟩
  obtain ⟨nb, hnb⟩ : ∃ nb, nb = b.body.d.length := ⟨_, rfl⟩
  have HEQ := Lib.hid (equalB_any a.body.p b.body.p a.body.cap b.body.cap na nb a.body.d b.body.d _ hna hnb (ra.mod0 HM.out) (rb.mod0 HM.out) (by omega))
  rw [hB] at HEQ
  rw [← hna] at ba
  rw [← hnb] at bb
  have HA := Lib.hid ha
  have HB := Lib.hid hb
  obtain ⟨ca, hca⟩ : ∃ ca, ca = a.cells.toArray := ⟨_, rfl⟩
  obtain ⟨cb, hcb⟩ : ∃ cb, cb = b.cells.toArray := ⟨_, rfl⟩
  rw [← hca, ← hcb] at ba bb HM HEQ B1 B2 ⊢
  have HCA := Lib.hid hca
  have HCB := Lib.hid hcb
  clear hca hcb ha hb ra rb hbl hna hnb hB
  go_enter Tryd.func50, Tryd.ntmps50
  go_wp2_with fail
  refine HEQ.out.mono ?_
  rintro e w1 ⟨rfl, m1⟩
  have K1 := enBox (x := a) HA.out (by rw [← HCA.out]; exact m1.get0 B1.out)
  have K2 := enBox (x := b) HB.out (by rw [← HCB.out]; exact m1.get0 B2.out)
  have HMF := Lib.hid (HM.out.trans0 m1)
  clear K1 K2 ba bb m1
  go_wp2_with fail
  go_ret
  exact ⟨rfl, HMF.out⟩
set_option maxRecDepth 100000 in
theorem alike_1 (a b : En) (w : World) (ha : a.Ln) (hb : b.Ln) (ra : Rd V8 w a.body.p a.body.cap a.body.d) (rb : Rd V8 w b.body.p b.body.cap b.body.d) (hbl : a.body.d.length ≤ 1099511627776) (hB : (a.body.d == b.body.d) = true) (hK : (a.kind == b.kind) = false) : Calls Tryd.prog 50 #[.agg a.cells.toArray, .agg b.cells.toArray] w fun e w' => e = .returned (.bool false) ∧ Mod [] w w' := by
  have B1 := Lib.hid (hp_old (o := .cells b.cells.toArray 35) (hp_new w (.cells a.cells.toArray 35) _ rfl))
  have B2 := Lib.hid (hp_new (w.alloc (.cells a.cells.toArray 35)) (.cells b.cells.toArray 35) (w.heap.size + 1) (by simp))
  have ba : ((w.alloc (.cells a.cells.toArray 35)).alloc (.cells b.cells.toArray 35)).cell? ⟨w.heap.size, 48, none⟩ = some (.slice a.body.p a.body.d.length a.body.cap) := (enBox ha B1.out).c48
  have bb : ((w.alloc (.cells a.cells.toArray 35)).alloc (.cells b.cells.toArray 35)).cell? ⟨w.heap.size + 1, 48, none⟩ = some (.slice b.body.p b.body.d.length b.body.cap) := (enBox hb B2.out).c48
  have HM := Lib.hid (((Mod.refl [] w).alloc (.cells a.cells.toArray 35)).alloc (.cells b.cells.toArray 35))
  obtain ⟨na, hna⟩ : ∃ na, na = a.body.d.length := ⟨_, rfl⟩
  obtain ⟨nb, hnb⟩ : ∃ nb, nb = b.body.d.length := ⟨_, rfl⟩
  have HEQ := Lib.hid (equalB_any a.body.p b.body.p a.body.cap b.body.cap na nb a.body.d b.body.d _ hna hnb (ra.mod0 HM.out) (rb.mod0 HM.out) (by omega))
  rw [hB] at HEQ
  rw [← hna] at ba
  rw [← hnb] at bb
  have HA := Lib.hid ha
  have HB := Lib.hid hb
  obtain ⟨ca, hca⟩ : ∃ ca, ca = a.cells.toArray := ⟨_, rfl⟩
  obtain ⟨cb, hcb⟩ : ∃ cb, cb = b.cells.toArray := ⟨_, rfl⟩
  rw [← hca, ← hcb] at ba bb HM HEQ B1 B2 ⊢
  have HCA := Lib.hid hca
  have HCB := Lib.hid hcb
  clear hca hcb ha hb ra rb hbl hna hnb hB
  go_enter Tryd.func50, Tryd.ntmps50
  go_wp2_with fail
  refine HEQ.out.mono ?_
  rintro e w1 ⟨rfl, m1⟩
  have K1 := enBox (x := a) HA.out (by rw [← HCA.out]; exact m1.get0 B1.out)
  have K2 := enBox (x := b) HB.out (by rw [← HCB.out]; exact m1.get0 B2.out)
  have ka : w1.cell? ⟨w.heap.size, 0, none⟩ = some (.int .i64 a.kind) := K1.c0
  have kb : w1.cell? ⟨w.heap.size + 1, 0, none⟩ = some (.int .i64 b.kind) := K2.c0
  have HMF := Lib.hid (HM.out.trans0 m1)
  clear K1 K2 ba bb m1
  go_wp2_with fail
  go_ret
  exact ⟨rfl, HMF.out⟩
set_option maxRecDepth 100000 in
theorem alike_2 (a b : En) (w : World) (ha : a.Ln) (hb : b.Ln) (ra : Rd V8 w a.body.p a.body.cap a.body.d) (rb : Rd V8 w b.body.p b.body.cap b.body.d) (hbl : a.body.d.length ≤ 1099511627776) (hB : (a.body.d == b.body.d) = true) (hK : (a.kind == b.kind) = true) (hS : (a.snd == b.snd) = false) : Calls Tryd.prog 50 #[.agg a.cells.toArray, .agg b.cells.toArray] w fun e w' => e = .returned (.bool false) ∧ Mod [] w w' := by
  have B1 := Lib.hid (hp_old (o := .cells b.cells.toArray 35) (hp_new w (.cells a.cells.toArray 35) _ rfl))
  have B2 := Lib.hid (hp_new (w.alloc (.cells a.cells.toArray 35)) (.cells b.cells.toArray 35) (w.heap.size + 1) (by simp))
  have ba : ((w.alloc (.cells a.cells.toArray 35)).alloc (.cells b.cells.toArray 35)).cell? ⟨w.heap.size, 48, none⟩ = some (.slice a.body.p a.body.d.length a.body.cap) := (enBox ha B1.out).c48
  have bb : ((w.alloc (.cells a.cells.toArray 35)).alloc (.cells b.cells.toArray 35)).cell? ⟨w.heap.size + 1, 48, none⟩ = some (.slice b.body.p b.body.d.length b.body.cap) := (enBox hb B2.out).c48
  have HM := Lib.hid (((Mod.refl [] w).alloc (.cells a.cells.toArray 35)).alloc (.cells b.cells.toArray 35))
  obtain ⟨na, hna⟩ : ∃ na, na = a.body.d.length := ⟨_, rfl⟩
  obtain ⟨nb, hnb⟩ : ∃ nb, nb = b.body.d.length := ⟨_, rfl⟩
  have HEQ := Lib.hid (equalB_any a.body.p b.body.p a.body.cap b.body.cap na nb a.body.d b.body.d _ hna hnb (ra.mod0 HM.out) (rb.mod0 HM.out) (by omega))
  rw [hB] at HEQ
  rw [← hna] at ba
  rw [← hnb] at bb
  have HA := Lib.hid ha
  have HB := Lib.hid hb
  obtain ⟨ca, hca⟩ : ∃ ca, ca = a.cells.toArray := ⟨_, rfl⟩
  obtain ⟨cb, hcb⟩ : ∃ cb, cb = b.cells.toArray := ⟨_, rfl⟩
  rw [← hca, ← hcb] at ba bb HM HEQ B1 B2 ⊢
  have HCA := Lib.hid hca
  have HCB := Lib.hid hcb
  clear hca hcb ha hb ra rb hbl hna hnb hB
  go_enter Tryd.func50, Tryd.ntmps50
  go_wp2_with fail
  refine HEQ.out.mono ?_
  rintro e w1 ⟨rfl, m1⟩
  have K1 := enBox (x := a) HA.out (by rw [← HCA.out]; exact m1.get0 B1.out)
  have K2 := enBox (x := b) HB.out (by rw [← HCB.out]; exact m1.get0 B2.out)
  have ka : w1.cell? ⟨w.heap.size, 0, none⟩ = some (.int .i64 a.kind) := K1.c0
  have kb : w1.cell? ⟨w.heap.size + 1, 0, none⟩ = some (.int .i64 b.kind) := K2.c0
  have sa : (LoadO 30 (.pointer (some ⟨w.heap.size, 1, none⟩))).run Tryd.prog w1 = .ok (.agg (a.snd.map V8).toArray) _ := K1.l1
  have sb : (LoadO 30 (.pointer (some ⟨w.heap.size + 1, 1, none⟩))).run Tryd.prog w1 = .ok (.agg (b.snd.map V8).toArray) _ := K2.l1
  have es := fun w => eqAd w a.snd b.snd HA.out.s20 HB.out.s20
  simp only [hS] at es
  generalize (a.snd.map V8).toArray = sa at sa es
  generalize (b.snd.map V8).toArray = sb at sb es
  have HMF := Lib.hid (HM.out.trans0 m1)
  clear K1 K2 ba bb m1 hS
  go_wp2_with fail
  go_ret
  exact ⟨rfl, HMF.out⟩
set_option maxRecDepth 100000 in
theorem alike_3 (a b : En) (w : World) (ha : a.Ln) (hb : b.Ln) (ra : Rd V8 w a.body.p a.body.cap a.body.d) (rb : Rd V8 w b.body.p b.body.cap b.body.d) (hbl : a.body.d.length ≤ 1099511627776) (hB : (a.body.d == b.body.d) = true) (hK : (a.kind == b.kind) = true) (hS : (a.snd == b.snd) = true) (hT : (a.time == b.time) = false) : Calls Tryd.prog 50 #[.agg a.cells.toArray, .agg b.cells.toArray] w fun e w' => e = .returned (.bool false) ∧ Mod [] w w' := by
  have B1 := Lib.hid (hp_old (o := .cells b.cells.toArray 35) (hp_new w (.cells a.cells.toArray 35) _ rfl))
  have B2 := Lib.hid (hp_new (w.alloc (.cells a.cells.toArray 35)) (.cells b.cells.toArray 35) (w.heap.size + 1) (by simp))
  have ba : ((w.alloc (.cells a.cells.toArray 35)).alloc (.cells b.cells.toArray 35)).cell? ⟨w.heap.size, 48, none⟩ = some (.slice a.body.p a.body.d.length a.body.cap) := (enBox ha B1.out).c48
  have bb : ((w.alloc (.cells a.cells.toArray 35)).alloc (.cells b.cells.toArray 35)).cell? ⟨w.heap.size + 1, 48, none⟩ = some (.slice b.body.p b.body.d.length b.body.cap) := (enBox hb B2.out).c48
  have HM := Lib.hid (((Mod.refl [] w).alloc (.cells a.cells.toArray 35)).alloc (.cells b.cells.toArray 35))
  obtain ⟨na, hna⟩ : ∃ na, na = a.body.d.length := ⟨_, rfl⟩
  obtain ⟨nb, hnb⟩ : ∃ nb, nb = b.body.d.length := ⟨_, rfl⟩
  have HEQ := Lib.hid (equalB_any a.body.p b.body.p a.body.cap b.body.cap na nb a.body.d b.body.d _ hna hnb (ra.mod0 HM.out) (rb.mod0 HM.out) (by omega))
  rw [hB] at HEQ
  rw [← hna] at ba
  rw [← hnb] at bb
  have HA := Lib.hid ha
  have HB := Lib.hid hb
  obtain ⟨ca, hca⟩ : ∃ ca, ca = a.cells.toArray := ⟨_, rfl⟩
  obtain ⟨cb, hcb⟩ : ∃ cb, cb = b.cells.toArray := ⟨_, rfl⟩
  rw [← hca, ← hcb] at ba bb HM HEQ B1 B2 ⊢
  have HCA := Lib.hid hca
  have HCB := Lib.hid hcb
  clear hca hcb ha hb ra rb hbl hna hnb hB
  go_enter Tryd.func50, Tryd.ntmps50
  go_wp2_with fail
  refine HEQ.out.mono ?_
  rintro e w1 ⟨rfl, m1⟩
  have K1 := enBox (x := a) HA.out (by rw [← HCA.out]; exact m1.get0 B1.out)
  have K2 := enBox (x := b) HB.out (by rw [← HCB.out]; exact m1.get0 B2.out)
  have ka : w1.cell? ⟨w.heap.size, 0, none⟩ = some (.int .i64 a.kind) := K1.c0
  have kb : w1.cell? ⟨w.heap.size + 1, 0, none⟩ = some (.int .i64 b.kind) := K2.c0
  have sa : (LoadO 30 (.pointer (some ⟨w.heap.size, 1, none⟩))).run Tryd.prog w1 = .ok (.agg (a.snd.map V8).toArray) _ := K1.l1
  have sb : (LoadO 30 (.pointer (some ⟨w.heap.size + 1, 1, none⟩))).run Tryd.prog w1 = .ok (.agg (b.snd.map V8).toArray) _ := K2.l1
  have es := fun w => eqAd w a.snd b.snd HA.out.s20 HB.out.s20
  simp only [hS] at es
  generalize (a.snd.map V8).toArray = sa at sa es
  generalize (b.snd.map V8).toArray = sb at sb es
  have ta : w1.cell? ⟨w.heap.size, 21, none⟩ = some (.int .i64 a.time) := K1.c21
  have tb : w1.cell? ⟨w.heap.size + 1, 21, none⟩ = some (.int .i64 b.time) := K2.c21
  have HMF := Lib.hid (HM.out.trans0 m1)
  clear K1 K2 ba bb m1 hS
  go_wp2_with fail
  go_ret
  exact ⟨rfl, HMF.out⟩
set_option maxRecDepth 100000 in
theorem alike_4 (a b : En) (w : World) (ha : a.Ln) (hb : b.Ln) (ra : Rd V8 w a.body.p a.body.cap a.body.d) (rb : Rd V8 w b.body.p b.body.cap b.body.d) (hbl : a.body.d.length ≤ 1099511627776) (hB : (a.body.d == b.body.d) = true) (hK : (a.kind == b.kind) = true) (hS : (a.snd == b.snd) = true) (hT : (a.time == b.time) = true) (hO : (a.tok == b.tok) = false) : Calls Tryd.prog 50 #[.agg a.cells.toArray, .agg b.cells.toArray] w fun e w' => e = .returned (.bool false) ∧ Mod [] w w' := by
  have B1 := Lib.hid (hp_old (o := .cells b.cells.toArray 35) (hp_new w (.cells a.cells.toArray 35) _ rfl))
  have B2 := Lib.hid (hp_new (w.alloc (.cells a.cells.toArray 35)) (.cells b.cells.toArray 35) (w.heap.size + 1) (by simp))
  have ba : ((w.alloc (.cells a.cells.toArray 35)).alloc (.cells b.cells.toArray 35)).cell? ⟨w.heap.size, 48, none⟩ = some (.slice a.body.p a.body.d.length a.body.cap) := (enBox ha B1.out).c48
  have bb : ((w.alloc (.cells a.cells.toArray 35)).alloc (.cells b.cells.toArray 35)).cell? ⟨w.heap.size + 1, 48, none⟩ = some (.slice b.body.p b.body.d.length b.body.cap) := (enBox hb B2.out).c48
  have HM := Lib.hid (((Mod.refl [] w).alloc (.cells a.cells.toArray 35)).alloc (.cells b.cells.toArray 35))
  obtain ⟨na, hna⟩ : ∃ na, na = a.body.d.length := ⟨_, rfl⟩
  obtain ⟨nb, hnb⟩ : ∃ nb, nb = b.body.d.length := ⟨_, rfl⟩
  have HEQ := Lib.hid (equalB_any a.body.p b.body.p a.body.cap b.body.cap na nb a.body.d b.body.d _ hna hnb (ra.mod0 HM.out) (rb.mod0 HM.out) (by omega))
  rw [hB] at HEQ
  rw [← hna] at ba
  rw [← hnb] at bb
  have HA := Lib.hid ha
  have HB := Lib.hid hb
  obtain ⟨ca, hca⟩ : ∃ ca, ca = a.cells.toArray := ⟨_, rfl⟩
  obtain ⟨cb, hcb⟩ : ∃ cb, cb = b.cells.toArray := ⟨_, rfl⟩
  rw [← hca, ← hcb] at ba bb HM HEQ B1 B2 ⊢
  have HCA := Lib.hid hca
  have HCB := Lib.hid hcb
  clear hca hcb ha hb ra rb hbl hna hnb hB
  go_enter Tryd.func50, Tryd.ntmps50
  go_wp2_with fail
  refine HEQ.out.mono ?_
  rintro e w1 ⟨rfl, m1⟩
  have K1 := enBox (x := a) HA.out (by rw [← HCA.out]; exact m1.get0 B1.out)
  have K2 := enBox (x := b) HB.out (by rw [← HCB.out]; exact m1.get0 B2.out)
  have ka : w1.cell? ⟨w.heap.size, 0, none⟩ = some (.int .i64 a.kind) := K1.c0
  have kb : w1.cell? ⟨w.heap.size + 1, 0, none⟩ = some (.int .i64 b.kind) := K2.c0
  have sa : (LoadO 30 (.pointer (some ⟨w.heap.size, 1, none⟩))).run Tryd.prog w1 = .ok (.agg (a.snd.map V8).toArray) _ := K1.l1
  have sb : (LoadO 30 (.pointer (some ⟨w.heap.size + 1, 1, none⟩))).run Tryd.prog w1 = .ok (.agg (b.snd.map V8).toArray) _ := K2.l1
  have es := fun w => eqAd w a.snd b.snd HA.out.s20 HB.out.s20
  simp only [hS] at es
  generalize (a.snd.map V8).toArray = sa at sa es
  generalize (b.snd.map V8).toArray = sb at sb es
  have ta : w1.cell? ⟨w.heap.size, 21, none⟩ = some (.int .i64 a.time) := K1.c21
  have tb : w1.cell? ⟨w.heap.size + 1, 21, none⟩ = some (.int .i64 b.time) := K2.c21
  have oa : w1.cell? ⟨w.heap.size, 22, none⟩ = some (.int .i64 a.tok) := K1.c22
  have ob : w1.cell? ⟨w.heap.size + 1, 22, none⟩ = some (.int .i64 b.tok) := K2.c22
  have HMF := Lib.hid (HM.out.trans0 m1)
  clear K1 K2 ba bb m1 hS
  go_wp2_with fail
  go_ret
  exact ⟨rfl, HMF.out⟩
set_option maxRecDepth 100000 in
theorem alike_5 (a b : En) (w : World) (ha : a.Ln) (hb : b.Ln) (ra : Rd V8 w a.body.p a.body.cap a.body.d) (rb : Rd V8 w b.body.p b.body.cap b.body.d) (hbl : a.body.d.length ≤ 1099511627776) (hB : (a.body.d == b.body.d) = true) (hK : (a.kind == b.kind) = true) (hS : (a.snd == b.snd) = true) (hT : (a.time == b.time) = true) (hO : (a.tok == b.tok) = true) (hD : (a.to == b.to) = false) : Calls Tryd.prog 50 #[.agg a.cells.toArray, .agg b.cells.toArray] w fun e w' => e = .returned (.bool false) ∧ Mod [] w w' := by
  have B1 := Lib.hid (hp_old (o := .cells b.cells.toArray 35) (hp_new w (.cells a.cells.toArray 35) _ rfl))
  have B2 := Lib.hid (hp_new (w.alloc (.cells a.cells.toArray 35)) (.cells b.cells.toArray 35) (w.heap.size + 1) (by simp))
  have ba : ((w.alloc (.cells a.cells.toArray 35)).alloc (.cells b.cells.toArray 35)).cell? ⟨w.heap.size, 48, none⟩ = some (.slice a.body.p a.body.d.length a.body.cap) := (enBox ha B1.out).c48
  have bb : ((w.alloc (.cells a.cells.toArray 35)).alloc (.cells b.cells.toArray 35)).cell? ⟨w.heap.size + 1, 48, none⟩ = some (.slice b.body.p b.body.d.length b.body.cap) := (enBox hb B2.out).c48
  have HM := Lib.hid (((Mod.refl [] w).alloc (.cells a.cells.toArray 35)).alloc (.cells b.cells.toArray 35))
  obtain ⟨na, hna⟩ : ∃ na, na = a.body.d.length := ⟨_, rfl⟩
  obtain ⟨nb, hnb⟩ : ∃ nb, nb = b.body.d.length := ⟨_, rfl⟩
  have HEQ := Lib.hid (equalB_any a.body.p b.body.p a.body.cap b.body.cap na nb a.body.d b.body.d _ hna hnb (ra.mod0 HM.out) (rb.mod0 HM.out) (by omega))
  rw [hB] at HEQ
  rw [← hna] at ba
  rw [← hnb] at bb
  have HA := Lib.hid ha
  have HB := Lib.hid hb
  obtain ⟨ca, hca⟩ : ∃ ca, ca = a.cells.toArray := ⟨_, rfl⟩
  obtain ⟨cb, hcb⟩ : ∃ cb, cb = b.cells.toArray := ⟨_, rfl⟩
  rw [← hca, ← hcb] at ba bb HM HEQ B1 B2 ⊢
  have HCA := Lib.hid hca
  have HCB := Lib.hid hcb
  clear hca hcb ha hb ra rb hbl hna hnb hB
  go_enter Tryd.func50, Tryd.ntmps50
  go_wp2_with fail
  refine HEQ.out.mono ?_
  rintro e w1 ⟨rfl, m1⟩
  have K1 := enBox (x := a) HA.out (by rw [← HCA.out]; exact m1.get0 B1.out)
  have K2 := enBox (x := b) HB.out (by rw [← HCB.out]; exact m1.get0 B2.out)
  have ka : w1.cell? ⟨w.heap.size, 0, none⟩ = some (.int .i64 a.kind) := K1.c0
  have kb : w1.cell? ⟨w.heap.size + 1, 0, none⟩ = some (.int .i64 b.kind) := K2.c0
  have sa : (LoadO 30 (.pointer (some ⟨w.heap.size, 1, none⟩))).run Tryd.prog w1 = .ok (.agg (a.snd.map V8).toArray) _ := K1.l1
  have sb : (LoadO 30 (.pointer (some ⟨w.heap.size + 1, 1, none⟩))).run Tryd.prog w1 = .ok (.agg (b.snd.map V8).toArray) _ := K2.l1
  have es := fun w => eqAd w a.snd b.snd HA.out.s20 HB.out.s20
  simp only [hS] at es
  generalize (a.snd.map V8).toArray = sa at sa es
  generalize (b.snd.map V8).toArray = sb at sb es
  have ta : w1.cell? ⟨w.heap.size, 21, none⟩ = some (.int .i64 a.time) := K1.c21
  have tb : w1.cell? ⟨w.heap.size + 1, 21, none⟩ = some (.int .i64 b.time) := K2.c21
  have oa : w1.cell? ⟨w.heap.size, 22, none⟩ = some (.int .i64 a.tok) := K1.c22
  have ob : w1.cell? ⟨w.heap.size + 1, 22, none⟩ = some (.int .i64 b.tok) := K2.c22
  have da : (LoadO 30 (.pointer (some ⟨w.heap.size, 23, none⟩))).run Tryd.prog w1 = .ok (.agg (a.to.map V8).toArray) _ := K1.l23
  have db : (LoadO 30 (.pointer (some ⟨w.heap.size + 1, 23, none⟩))).run Tryd.prog w1 = .ok (.agg (b.to.map V8).toArray) _ := K2.l23
  have ed := fun w => eqAd w a.to b.to HA.out.t20 HB.out.t20
  simp only [hD] at ed
  generalize (a.to.map V8).toArray = da at da ed
  generalize (b.to.map V8).toArray = db at db ed
  have HMF := Lib.hid (HM.out.trans0 m1)
  clear K1 K2 ba bb m1 hS hD
  go_wp2_with fail
  go_ret
  exact ⟨rfl, HMF.out⟩
set_option maxRecDepth 100000 in
theorem alike_6 (a b : En) (w : World) (ha : a.Ln) (hb : b.Ln) (ra : Rd V8 w a.body.p a.body.cap a.body.d) (rb : Rd V8 w b.body.p b.body.cap b.body.d) (hbl : a.body.d.length ≤ 1099511627776) (hB : (a.body.d == b.body.d) = true) (hK : (a.kind == b.kind) = true) (hS : (a.snd == b.snd) = true) (hT : (a.time == b.time) = true) (hO : (a.tok == b.tok) = true) (hD : (a.to == b.to) = true) (hA : (a.amt == b.amt) = false) : Calls Tryd.prog 50 #[.agg a.cells.toArray, .agg b.cells.toArray] w fun e w' => e = .returned (.bool false) ∧ Mod [] w w' := by
  have B1 := Lib.hid (hp_old (o := .cells b.cells.toArray 35) (hp_new w (.cells a.cells.toArray 35) _ rfl))
  have B2 := Lib.hid (hp_new (w.alloc (.cells a.cells.toArray 35)) (.cells b.cells.toArray 35) (w.heap.size + 1) (by simp))
  have ba : ((w.alloc (.cells a.cells.toArray 35)).alloc (.cells b.cells.toArray 35)).cell? ⟨w.heap.size, 48, none⟩ = some (.slice a.body.p a.body.d.length a.body.cap) := (enBox ha B1.out).c48
  have bb : ((w.alloc (.cells a.cells.toArray 35)).alloc (.cells b.cells.toArray 35)).cell? ⟨w.heap.size + 1, 48, none⟩ = some (.slice b.body.p b.body.d.length b.body.cap) := (enBox hb B2.out).c48
  have HM := Lib.hid (((Mod.refl [] w).alloc (.cells a.cells.toArray 35)).alloc (.cells b.cells.toArray 35))
  obtain ⟨na, hna⟩ : ∃ na, na = a.body.d.length := ⟨_, rfl⟩
  obtain ⟨nb, hnb⟩ : ∃ nb, nb = b.body.d.length := ⟨_, rfl⟩
  have HEQ := Lib.hid (equalB_any a.body.p b.body.p a.body.cap b.body.cap na nb a.body.d b.body.d _ hna hnb (ra.mod0 HM.out) (rb.mod0 HM.out) (by omega))
  rw [hB] at HEQ
  rw [← hna] at ba
  rw [← hnb] at bb
  have HA := Lib.hid ha
  have HB := Lib.hid hb
  obtain ⟨ca, hca⟩ : ∃ ca, ca = a.cells.toArray := ⟨_, rfl⟩
  obtain ⟨cb, hcb⟩ : ∃ cb, cb = b.cells.toArray := ⟨_, rfl⟩
  rw [← hca, ← hcb] at ba bb HM HEQ B1 B2 ⊢
  have HCA := Lib.hid hca
  have HCB := Lib.hid hcb
  clear hca hcb ha hb ra rb hbl hna hnb hB
  go_enter Tryd.func50, Tryd.ntmps50
  go_wp2_with fail
  refine HEQ.out.mono ?_
  rintro e w1 ⟨rfl, m1⟩
  have K1 := enBox (x := a) HA.out (by rw [← HCA.out]; exact m1.get0 B1.out)
  have K2 := enBox (x := b) HB.out (by rw [← HCB.out]; exact m1.get0 B2.out)
  have ka : w1.cell? ⟨w.heap.size, 0, none⟩ = some (.int .i64 a.kind) := K1.c0
  have kb : w1.cell? ⟨w.heap.size + 1, 0, none⟩ = some (.int .i64 b.kind) := K2.c0
  have sa : (LoadO 30 (.pointer (some ⟨w.heap.size, 1, none⟩))).run Tryd.prog w1 = .ok (.agg (a.snd.map V8).toArray) _ := K1.l1
  have sb : (LoadO 30 (.pointer (some ⟨w.heap.size + 1, 1, none⟩))).run Tryd.prog w1 = .ok (.agg (b.snd.map V8).toArray) _ := K2.l1
  have es := fun w => eqAd w a.snd b.snd HA.out.s20 HB.out.s20
  simp only [hS] at es
  generalize (a.snd.map V8).toArray = sa at sa es
  generalize (b.snd.map V8).toArray = sb at sb es
  have ta : w1.cell? ⟨w.heap.size, 21, none⟩ = some (.int .i64 a.time) := K1.c21
  have tb : w1.cell? ⟨w.heap.size + 1, 21, none⟩ = some (.int .i64 b.time) := K2.c21
  have oa : w1.cell? ⟨w.heap.size, 22, none⟩ = some (.int .i64 a.tok) := K1.c22
  have ob : w1.cell? ⟨w.heap.size + 1, 22, none⟩ = some (.int .i64 b.tok) := K2.c22
  have da : (LoadO 30 (.pointer (some ⟨w.heap.size, 23, none⟩))).run Tryd.prog w1 = .ok (.agg (a.to.map V8).toArray) _ := K1.l23
  have db : (LoadO 30 (.pointer (some ⟨w.heap.size + 1, 23, none⟩))).run Tryd.prog w1 = .ok (.agg (b.to.map V8).toArray) _ := K2.l23
  have ed := fun w => eqAd w a.to b.to HA.out.t20 HB.out.t20
  simp only [hD] at ed
  generalize (a.to.map V8).toArray = da at da ed
  generalize (b.to.map V8).toArray = db at db ed
  have ma : (LoadO 33 (.pointer (some ⟨w.heap.size, 43, none⟩))).run Tryd.prog w1 = .ok (.agg (a.amt.map V64).toArray) _ := K1.l43
  have mb : (LoadO 33 (.pointer (some ⟨w.heap.size + 1, 43, none⟩))).run Tryd.prog w1 = .ok (.agg (b.amt.map V64).toArray) _ := K2.l43
  have em : ∀ w, (binOp .eql 33 (.agg (a.amt.map V64).toArray) (.agg (b.amt.map V64).toArray)).run Tryd.prog w = .ok (.bool (a.amt == b.amt)) w := fun w => eqWide w ⟨a.amt, HA.out.a4⟩ ⟨b.amt, HB.out.a4⟩
  simp only [hA] at em
  generalize (a.amt.map V64).toArray = ma at ma em
  generalize (b.amt.map V64).toArray = mb at mb em
  have HMF := Lib.hid (HM.out.trans0 m1)
  clear K1 K2 ba bb m1 hS hD hA
  go_wp2_with fail
  go_ret
  exact ⟨rfl, HMF.out⟩
set_option maxRecDepth 100000 in
theorem alike_7 (a b : En) (w : World) (ha : a.Ln) (hb : b.Ln) (ra : Rd V8 w a.body.p a.body.cap a.body.d) (rb : Rd V8 w b.body.p b.body.cap b.body.d) (hbl : a.body.d.length ≤ 1099511627776) (hB : (a.body.d == b.body.d) = true) (hK : (a.kind == b.kind) = true) (hS : (a.snd == b.snd) = true) (hT : (a.time == b.time) = true) (hO : (a.tok == b.tok) = true) (hD : (a.to == b.to) = true) (hA : (a.amt == b.amt) = true) (hG : (a.gas == b.gas) = false) : Calls Tryd.prog 50 #[.agg a.cells.toArray, .agg b.cells.toArray] w fun e w' => e = .returned (.bool false) ∧ Mod [] w w' := by
  have B1 := Lib.hid (hp_old (o := .cells b.cells.toArray 35) (hp_new w (.cells a.cells.toArray 35) _ rfl))
  have B2 := Lib.hid (hp_new (w.alloc (.cells a.cells.toArray 35)) (.cells b.cells.toArray 35) (w.heap.size + 1) (by simp))
  have ba : ((w.alloc (.cells a.cells.toArray 35)).alloc (.cells b.cells.toArray 35)).cell? ⟨w.heap.size, 48, none⟩ = some (.slice a.body.p a.body.d.length a.body.cap) := (enBox ha B1.out).c48
  have bb : ((w.alloc (.cells a.cells.toArray 35)).alloc (.cells b.cells.toArray 35)).cell? ⟨w.heap.size + 1, 48, none⟩ = some (.slice b.body.p b.body.d.length b.body.cap) := (enBox hb B2.out).c48
  have HM := Lib.hid (((Mod.refl [] w).alloc (.cells a.cells.toArray 35)).alloc (.cells b.cells.toArray 35))
  obtain ⟨na, hna⟩ : ∃ na, na = a.body.d.length := ⟨_, rfl⟩
  obtain ⟨nb, hnb⟩ : ∃ nb, nb = b.body.d.length := ⟨_, rfl⟩
  have HEQ := Lib.hid (equalB_any a.body.p b.body.p a.body.cap b.body.cap na nb a.body.d b.body.d _ hna hnb (ra.mod0 HM.out) (rb.mod0 HM.out) (by omega))
  rw [hB] at HEQ
  rw [← hna] at ba
  rw [← hnb] at bb
  have HA := Lib.hid ha
  have HB := Lib.hid hb
  obtain ⟨ca, hca⟩ : ∃ ca, ca = a.cells.toArray := ⟨_, rfl⟩
  obtain ⟨cb, hcb⟩ : ∃ cb, cb = b.cells.toArray := ⟨_, rfl⟩
  rw [← hca, ← hcb] at ba bb HM HEQ B1 B2 ⊢
  have HCA := Lib.hid hca
  have HCB := Lib.hid hcb
  clear hca hcb ha hb ra rb hbl hna hnb hB
  go_enter Tryd.func50, Tryd.ntmps50
  go_wp2_with fail
  refine HEQ.out.mono ?_
  rintro e w1 ⟨rfl, m1⟩
  have K1 := enBox (x := a) HA.out (by rw [← HCA.out]; exact m1.get0 B1.out)
  have K2 := enBox (x := b) HB.out (by rw [← HCB.out]; exact m1.get0 B2.out)
  have ka : w1.cell? ⟨w.heap.size, 0, none⟩ = some (.int .i64 a.kind) := K1.c0
  have kb : w1.cell? ⟨w.heap.size + 1, 0, none⟩ = some (.int .i64 b.kind) := K2.c0
  have sa : (LoadO 30 (.pointer (some ⟨w.heap.size, 1, none⟩))).run Tryd.prog w1 = .ok (.agg (a.snd.map V8).toArray) _ := K1.l1
  have sb : (LoadO 30 (.pointer (some ⟨w.heap.size + 1, 1, none⟩))).run Tryd.prog w1 = .ok (.agg (b.snd.map V8).toArray) _ := K2.l1
  have es := fun w => eqAd w a.snd b.snd HA.out.s20 HB.out.s20
  simp only [hS] at es
  generalize (a.snd.map V8).toArray = sa at sa es
  generalize (b.snd.map V8).toArray = sb at sb es
  have ta : w1.cell? ⟨w.heap.size, 21, none⟩ = some (.int .i64 a.time) := K1.c21
  have tb : w1.cell? ⟨w.heap.size + 1, 21, none⟩ = some (.int .i64 b.time) := K2.c21
  have oa : w1.cell? ⟨w.heap.size, 22, none⟩ = some (.int .i64 a.tok) := K1.c22
  have ob : w1.cell? ⟨w.heap.size + 1, 22, none⟩ = some (.int .i64 b.tok) := K2.c22
  have da : (LoadO 30 (.pointer (some ⟨w.heap.size, 23, none⟩))).run Tryd.prog w1 = .ok (.agg (a.to.map V8).toArray) _ := K1.l23
  have db : (LoadO 30 (.pointer (some ⟨w.heap.size + 1, 23, none⟩))).run Tryd.prog w1 = .ok (.agg (b.to.map V8).toArray) _ := K2.l23
  have ed := fun w => eqAd w a.to b.to HA.out.t20 HB.out.t20
  simp only [hD] at ed
  generalize (a.to.map V8).toArray = da at da ed
  generalize (b.to.map V8).toArray = db at db ed
  have ma : (LoadO 33 (.pointer (some ⟨w.heap.size, 43, none⟩))).run Tryd.prog w1 = .ok (.agg (a.amt.map V64).toArray) _ := K1.l43
  have mb : (LoadO 33 (.pointer (some ⟨w.heap.size + 1, 43, none⟩))).run Tryd.prog w1 = .ok (.agg (b.amt.map V64).toArray) _ := K2.l43
  have em : ∀ w, (binOp .eql 33 (.agg (a.amt.map V64).toArray) (.agg (b.amt.map V64).toArray)).run Tryd.prog w = .ok (.bool (a.amt == b.amt)) w := fun w => eqWide w ⟨a.amt, HA.out.a4⟩ ⟨b.amt, HB.out.a4⟩
  simp only [hA] at em
  generalize (a.amt.map V64).toArray = ma at ma em
  generalize (b.amt.map V64).toArray = mb at mb em
  have ga : w1.cell? ⟨w.heap.size, 47, none⟩ = some (.int .i64 a.gas) := K1.c47
  have gb : w1.cell? ⟨w.heap.size + 1, 47, none⟩ = some (.int .i64 b.gas) := K2.c47
  have HMF := Lib.hid (HM.out.trans0 m1)
  clear K1 K2 ba bb m1 hS hD hA
  go_wp2_with fail
  go_ret
  exact ⟨rfl, HMF.out⟩
set_option maxRecDepth 100000 in
theorem alike_ok (a b : En) (w : World) (ha : a.Ln) (hb : b.Ln) (ra : Rd V8 w a.body.p a.body.cap a.body.d) (rb : Rd V8 w b.body.p b.body.cap b.body.d) (hbl : a.body.d.length ≤ 1099511627776) (hB : (a.body.d == b.body.d) = true) (hK : (a.kind == b.kind) = true) (hS : (a.snd == b.snd) = true) (hT : (a.time == b.time) = true) (hO : (a.tok == b.tok) = true) (hD : (a.to == b.to) = true) (hA : (a.amt == b.amt) = true) (hG : (a.gas == b.gas) = true) : Calls Tryd.prog 50 #[.agg a.cells.toArray, .agg b.cells.toArray] w fun e w' => e = .returned (.bool true) ∧ Mod [] w w' := by
  have B1 := Lib.hid (hp_old (o := .cells b.cells.toArray 35) (hp_new w (.cells a.cells.toArray 35) _ rfl))
  have B2 := Lib.hid (hp_new (w.alloc (.cells a.cells.toArray 35)) (.cells b.cells.toArray 35) (w.heap.size + 1) (by simp))
  have ba : ((w.alloc (.cells a.cells.toArray 35)).alloc (.cells b.cells.toArray 35)).cell? ⟨w.heap.size, 48, none⟩ = some (.slice a.body.p a.body.d.length a.body.cap) := (enBox ha B1.out).c48
  have bb : ((w.alloc (.cells a.cells.toArray 35)).alloc (.cells b.cells.toArray 35)).cell? ⟨w.heap.size + 1, 48, none⟩ = some (.slice b.body.p b.body.d.length b.body.cap) := (enBox hb B2.out).c48
  have HM := Lib.hid (((Mod.refl [] w).alloc (.cells a.cells.toArray 35)).alloc (.cells b.cells.toArray 35))
  obtain ⟨na, hna⟩ : ∃ na, na = a.body.d.length := ⟨_, rfl⟩
  obtain ⟨nb, hnb⟩ : ∃ nb, nb = b.body.d.length := ⟨_, rfl⟩
  have HEQ := Lib.hid (equalB_any a.body.p b.body.p a.body.cap b.body.cap na nb a.body.d b.body.d _ hna hnb (ra.mod0 HM.out) (rb.mod0 HM.out) (by omega))
  rw [hB] at HEQ
  rw [← hna] at ba
  rw [← hnb] at bb
  have HA := Lib.hid ha
  have HB := Lib.hid hb
  obtain ⟨ca, hca⟩ : ∃ ca, ca = a.cells.toArray := ⟨_, rfl⟩
  obtain ⟨cb, hcb⟩ : ∃ cb, cb = b.cells.toArray := ⟨_, rfl⟩
  rw [← hca, ← hcb] at ba bb HM HEQ B1 B2 ⊢
  have HCA := Lib.hid hca
  have HCB := Lib.hid hcb
  clear hca hcb ha hb ra rb hbl hna hnb hB
  go_enter Tryd.func50, Tryd.ntmps50
  go_wp2_with fail
  refine HEQ.out.mono ?_
  rintro e w1 ⟨rfl, m1⟩
  have K1 := enBox (x := a) HA.out (by rw [← HCA.out]; exact m1.get0 B1.out)
  have K2 := enBox (x := b) HB.out (by rw [← HCB.out]; exact m1.get0 B2.out)
  have ka : w1.cell? ⟨w.heap.size, 0, none⟩ = some (.int .i64 a.kind) := K1.c0
  have kb : w1.cell? ⟨w.heap.size + 1, 0, none⟩ = some (.int .i64 b.kind) := K2.c0
  have sa : (LoadO 30 (.pointer (some ⟨w.heap.size, 1, none⟩))).run Tryd.prog w1 = .ok (.agg (a.snd.map V8).toArray) _ := K1.l1
  have sb : (LoadO 30 (.pointer (some ⟨w.heap.size + 1, 1, none⟩))).run Tryd.prog w1 = .ok (.agg (b.snd.map V8).toArray) _ := K2.l1
  have es := fun w => eqAd w a.snd b.snd HA.out.s20 HB.out.s20
  simp only [hS] at es
  generalize (a.snd.map V8).toArray = sa at sa es
  generalize (b.snd.map V8).toArray = sb at sb es
  have ta : w1.cell? ⟨w.heap.size, 21, none⟩ = some (.int .i64 a.time) := K1.c21
  have tb : w1.cell? ⟨w.heap.size + 1, 21, none⟩ = some (.int .i64 b.time) := K2.c21
  have oa : w1.cell? ⟨w.heap.size, 22, none⟩ = some (.int .i64 a.tok) := K1.c22
  have ob : w1.cell? ⟨w.heap.size + 1, 22, none⟩ = some (.int .i64 b.tok) := K2.c22
  have da : (LoadO 30 (.pointer (some ⟨w.heap.size, 23, none⟩))).run Tryd.prog w1 = .ok (.agg (a.to.map V8).toArray) _ := K1.l23
  have db : (LoadO 30 (.pointer (some ⟨w.heap.size + 1, 23, none⟩))).run Tryd.prog w1 = .ok (.agg (b.to.map V8).toArray) _ := K2.l23
  have ed := fun w => eqAd w a.to b.to HA.out.t20 HB.out.t20
  simp only [hD] at ed
  generalize (a.to.map V8).toArray = da at da ed
  generalize (b.to.map V8).toArray = db at db ed
  have ma : (LoadO 33 (.pointer (some ⟨w.heap.size, 43, none⟩))).run Tryd.prog w1 = .ok (.agg (a.amt.map V64).toArray) _ := K1.l43
  have mb : (LoadO 33 (.pointer (some ⟨w.heap.size + 1, 43, none⟩))).run Tryd.prog w1 = .ok (.agg (b.amt.map V64).toArray) _ := K2.l43
  have em : ∀ w, (binOp .eql 33 (.agg (a.amt.map V64).toArray) (.agg (b.amt.map V64).toArray)).run Tryd.prog w = .ok (.bool (a.amt == b.amt)) w := fun w => eqWide w ⟨a.amt, HA.out.a4⟩ ⟨b.amt, HB.out.a4⟩
  simp only [hA] at em
  generalize (a.amt.map V64).toArray = ma at ma em
  generalize (b.amt.map V64).toArray = mb at mb em
  have ga : w1.cell? ⟨w.heap.size, 47, none⟩ = some (.int .i64 a.gas) := K1.c47
  have gb : w1.cell? ⟨w.heap.size + 1, 47, none⟩ = some (.int .i64 b.gas) := K2.c47
  have HMF := Lib.hid (HM.out.trans0 m1)
  clear K1 K2 ba bb m1 hS hD hA
  go_wp2_with fail
  go_ret
  exact ⟨rfl, HMF.out⟩
theorem alikeP_any (a b : En) (w : World) (ha : a.Ln) (hb : b.Ln) (ra : Rd V8 w a.body.p a.body.cap a.body.d) (rb : Rd V8 w b.body.p b.body.cap b.body.d) (hbl : a.body.d.length ≤ 1099511627776) : Calls Tryd.prog 50 #[.agg a.cells.toArray, .agg b.cells.toArray] w fun e w' => e = .returned (.bool (sameE a b)) ∧ Mod [] w w' := by
  cases qB : (a.body.d == b.body.d)
  · have hc : sameE a b = false := by unfold sameE; rw [qB]; simp
    rw [hc]; exact alike_0 a b w ha hb ra rb hbl qB
  · cases qK : (a.kind == b.kind)
    · have hc : sameE a b = false := by unfold sameE; rw [qK]; simp
      rw [hc]; exact alike_1 a b w ha hb ra rb hbl qB qK
    · cases qS : (a.snd == b.snd)
      · have hc : sameE a b = false := by unfold sameE; rw [qS]; simp
        rw [hc]; exact alike_2 a b w ha hb ra rb hbl qB qK qS
      · cases qT : (a.time == b.time)
        · have hc : sameE a b = false := by unfold sameE; rw [qT]; simp
          rw [hc]; exact alike_3 a b w ha hb ra rb hbl qB qK qS qT
        · cases qO : (a.tok == b.tok)
          · have hc : sameE a b = false := by unfold sameE; rw [qO]; simp
            rw [hc]; exact alike_4 a b w ha hb ra rb hbl qB qK qS qT qO
          · cases qD : (a.to == b.to)
            · have hc : sameE a b = false := by unfold sameE; rw [qD]; simp
              rw [hc]; exact alike_5 a b w ha hb ra rb hbl qB qK qS qT qO qD
            · cases qA : (a.amt == b.amt)
              · have hc : sameE a b = false := by unfold sameE; rw [qA]; simp
                rw [hc]; exact alike_6 a b w ha hb ra rb hbl qB qK qS qT qO qD qA
              · cases qG : (a.gas == b.gas)
                · have hc : sameE a b = false := by unfold sameE; rw [qG]; simp
                  rw [hc]; exact alike_7 a b w ha hb ra rb hbl qB qK qS qT qO qD qA qG
                · have hc : sameE a b = true := by unfold sameE; rw [qB, qK, qS, qT, qO, qD, qA, qG]; rfl
                  rw [hc]; exact alike_ok a b w ha hb ra rb hbl qB qK qS qT qO qD qA qG
end Go.Proofs.YtmdgefiojapogaaDoor
namespace Go.Proofs.YtmdgefiojapogaaDoor
open Go.RowKit
attribute [local go_sem high] one8 st8 cm8 b_and8 b_and8r b_and8l b_or8 b_or8r b_or8l b_xor8 b_xor8r b_xor8l b_andNot8 b_andNot8r b_andNot8l b_add8 b_add8r b_add8l b_sub8 b_sub8r b_sub8l b_mul8 b_mul8r b_mul8l b_eql8 b_eql8r b_eql8l b_neq8 b_neq8r b_neq8l b_lss8 b_lss8r b_lss8l b_leq8 b_leq8r b_leq8l b_gtr8 b_gtr8r b_gtr8l b_geq8 b_geq8r b_geq8l b_quo8r b_rem8r b_shl8r b_shr8r b_shl8l b_shr8l u_xor8 g_eql8 g_neq8 g_eql8' g_neq8' one32 st32 cm32 b_and32 b_and32r b_and32l b_or32 b_or32r b_or32l b_xor32 b_xor32r b_xor32l b_andNot32 b_andNot32r b_andNot32l b_add32 b_add32r b_add32l b_sub32 b_sub32r b_sub32l b_mul32 b_mul32r b_mul32l b_eql32 b_eql32r b_eql32l b_neq32 b_neq32r b_neq32l b_lss32 b_lss32r b_lss32l b_leq32 b_leq32r b_leq32l b_gtr32 b_gtr32r b_gtr32l b_geq32 b_geq32r b_geq32l b_quo32r b_rem32r b_shl32r b_shr32r b_shl32l b_shr32l u_xor32 g_eql32 g_neq32 g_eql32' g_neq32' one64 st64 cm64 b_and64 b_and64r b_and64l b_or64 b_or64r b_or64l b_xor64 b_xor64r b_xor64l b_andNot64 b_andNot64r b_andNot64l b_add64 b_add64r b_add64l b_sub64 b_sub64r b_sub64l b_mul64 b_mul64r b_mul64l b_eql64 b_eql64r b_eql64l b_neq64 b_neq64r b_neq64l b_lss64 b_lss64r b_lss64l b_leq64 b_leq64r b_leq64l b_gtr64 b_gtr64r b_gtr64l b_geq64 b_geq64r b_geq64l b_quo64r b_rem64r b_shl64r b_shr64r b_shl64l b_shr64l u_xor64 g_eql64 g_neq64 g_eql64' g_neq64' c_u8_u8 c_u8_u32 c_u8_u64 c_i_u8 c_u32_u8 c_u32_u32 c_u32_u64 c_i_u32 c_u64_u8 c_u64_u32 c_u64_u64 c_i_u64 c_u8_i c_u32_i
attribute [local go_sem ↓] ce8 ce32 ce64
theorem bare_eq (l : List UInt8) : l = List.replicate (l.length - (bare l).length) 0 ++ bare l := by
  induction l with
  | nil => rfl
  | cons x l ih =>
    unfold bare
    split
    · rename_i h
      subst h
      have hb := bare_length l
      rw [List.length_cons, Nat.succ_sub hb, List.replicate_succ, List.cons_append, ← ih]
    · simp
theorem bare_inj {a b : List UInt8} (h : bare a = bare b) (hl : a.length = b.length) : a = b := by
  rw [bare_eq a, bare_eq b, h, hl]
theorem short_pre {a b u v : List UInt8} (ha : a.length ≤ 255) (hb : b.length ≤ 255) (h : short a ++ u <+: short b ++ v) : bare a = bare b ∧ u <+: v := by
  obtain ⟨t, ht⟩ := h
  have la := bare_length a
  have lb := bare_length b
  simp only [short, List.cons_append, List.append_assoc, List.cons.injEq] at ht
  obtain ⟨h1, h2⟩ := ht
  have h3 := congrArg UInt8.toNat h1
  rw [UInt8.toNat_ofNat', UInt8.toNat_ofNat', Nat.mod_eq_of_lt (by omega), Nat.mod_eq_of_lt (by omega)] at h3
  obtain ⟨h4, h5⟩ := List.append_inj h2 h3
  exact ⟨h4, t, h5⟩
theorem pre_nil (a b : List UInt8) (h : a <+: b) : a ++ [] <+: b ++ [] := by simpa using h
theorem pre_len {a b : List UInt8} (h : a <+: b) (hl : a.length = b.length) : a = b := h.eq_of_length hl
theorem be8_inj {n m : Nat} (hn : n < 18446744073709551616) (hm : m < 18446744073709551616) (h : be8 n = be8 m) : n = m := by
  unfold be8 at h
  have hi := List.map_inj_left.1 h
  have e : ∀ i, i < 8 → (n >>> (56 - 8 * i)) % 256 = (m >>> (56 - 8 * i)) % 256 := by
    intro i hi8
    have := congrArg UInt8.toNat (hi i (List.mem_range.2 hi8))
    simpa [UInt8.toNat_ofNat'] using this
  have e0 := e 0 (by omega)
  have e1 := e 1 (by omega)
  have e2 := e 2 (by omega)
  have e3 := e 3 (by omega)
  have e4 := e 4 (by omega)
  have e5 := e 5 (by omega)
  have e6 := e 6 (by omega)
  have e7 := e 7 (by omega)
  simp only [Nat.shiftRight_eq_div_pow, Nat.reduceMul, Nat.reduceSub, Nat.reducePow] at e0 e1 e2 e3 e4 e5 e6 e7
  omega
theorem form_pre {n m : Nat} {u v : List UInt8} (hn : n < 18446744073709551616) (hm : m < 18446744073709551616) (h : form n ++ u <+: form m ++ v) : n = m ∧ u <+: v := by
  obtain ⟨h1, h2⟩ := short_pre (by rw [be8_length]; omega) (by rw [be8_length]; omega) h
  exact ⟨be8_inj hn hm (bare_inj h1 (by rw [be8_length, be8_length])), h2⟩
theorem w64_inj {x y : UInt64} (h : ∀ j, j < 8 → (x >>> UInt64.ofNat (56 - 8 * j)).toUInt8 = (y >>> UInt64.ofNat (56 - 8 * j)).toUInt8) : x = y := by
  have e : ∀ j, j < 8 → (x.toNat >>> (56 - 8 * j)) % 256 = (y.toNat >>> (56 - 8 * j)) % 256 := by
    intro j hj
    have h1 := congrArg UInt8.toNat (h j hj)
    simp only [UInt64.toNat_toUInt8, UInt64.toNat_shiftRight, UInt64.toNat_ofNat'] at h1
    rw [Nat.mod_eq_of_lt (show 56 - 8 * j < 2 ^ 64 by omega), Nat.mod_eq_of_lt (show 56 - 8 * j < 64 by omega)] at h1
    exact h1
  have hx := x.toNat_lt
  have hy := y.toNat_lt
  have e0 := e 0 (by omega)
  have e1 := e 1 (by omega)
  have e2 := e 2 (by omega)
  have e3 := e 3 (by omega)
  have e4 := e 4 (by omega)
  have e5 := e 5 (by omega)
  have e6 := e 6 (by omega)
  have e7 := e 7 (by omega)
  simp only [Nat.shiftRight_eq_div_pow, Nat.reduceMul, Nat.reduceSub, Nat.reducePow] at e0 e1 e2 e3 e4 e5 e6 e7
  rw [← UInt64.toNat_inj]
  omega
theorem be32_inj {a b : List UInt64} (ha : a.length = 4) (hb : b.length = 4) (h : be32 a = be32 b) : a = b := by
  unfold be32 at h
  have hi := List.map_inj_left.1 h
  have e : ∀ k, k < 4 → a[k]?.getD 0 = b[k]?.getD 0 := by
    intro k hk
    refine w64_inj fun j hj => ?_
    have := hi (8 * (3 - k) + j) (List.mem_range.2 (by omega))
    rw [show 3 - (8 * (3 - k) + j) / 8 = k by omega, show (8 * (3 - k) + j) % 8 = j by omega] at this
    exact this
  refine List.ext_getElem (by rw [ha, hb]) fun k h1 h2 => ?_
  have := e k (by omega)
  rwa [List.getElem?_eq_getElem h1, List.getElem?_eq_getElem h2] at this
end Go.Proofs.YtmdgefiojapogaaDoor
namespace Go.Proofs.YtmdgefiojapogaaDoor
open Go.RowKit
attribute [local go_sem high] one8 st8 cm8 b_and8 b_and8r b_and8l b_or8 b_or8r b_or8l b_xor8 b_xor8r b_xor8l b_andNot8 b_andNot8r b_andNot8l b_add8 b_add8r b_add8l b_sub8 b_sub8r b_sub8l b_mul8 b_mul8r b_mul8l b_eql8 b_eql8r b_eql8l b_neq8 b_neq8r b_neq8l b_lss8 b_lss8r b_lss8l b_leq8 b_leq8r b_leq8l b_gtr8 b_gtr8r b_gtr8l b_geq8 b_geq8r b_geq8l b_quo8r b_rem8r b_shl8r b_shr8r b_shl8l b_shr8l u_xor8 g_eql8 g_neq8 g_eql8' g_neq8' one32 st32 cm32 b_and32 b_and32r b_and32l b_or32 b_or32r b_or32l b_xor32 b_xor32r b_xor32l b_andNot32 b_andNot32r b_andNot32l b_add32 b_add32r b_add32l b_sub32 b_sub32r b_sub32l b_mul32 b_mul32r b_mul32l b_eql32 b_eql32r b_eql32l b_neq32 b_neq32r b_neq32l b_lss32 b_lss32r b_lss32l b_leq32 b_leq32r b_leq32l b_gtr32 b_gtr32r b_gtr32l b_geq32 b_geq32r b_geq32l b_quo32r b_rem32r b_shl32r b_shr32r b_shl32l b_shr32l u_xor32 g_eql32 g_neq32 g_eql32' g_neq32' one64 st64 cm64 b_and64 b_and64r b_and64l b_or64 b_or64r b_or64l b_xor64 b_xor64r b_xor64l b_andNot64 b_andNot64r b_andNot64l b_add64 b_add64r b_add64l b_sub64 b_sub64r b_sub64l b_mul64 b_mul64r b_mul64l b_eql64 b_eql64r b_eql64l b_neq64 b_neq64r b_neq64l b_lss64 b_lss64r b_lss64l b_leq64 b_leq64r b_leq64l b_gtr64 b_gtr64r b_gtr64l b_geq64 b_geq64r b_geq64l b_quo64r b_rem64r b_shl64r b_shr64r b_shl64l b_shr64l u_xor64 g_eql64 g_neq64 g_eql64' g_neq64' c_u8_u8 c_u8_u32 c_u8_u64 c_i_u8 c_u32_u8 c_u32_u32 c_u32_u64 c_i_u32 c_u64_u8 c_u64_u32 c_u64_u64 c_i_u64 c_u8_i c_u32_i
attribute [local go_sem ↓] ce8 ce32 ce64
attribute [local go_sem ↓] sliced_slp loadO26 storeO26 loadOEn storeOEn buildZDg buildZEn buildSlEn
def AllSame (es fs : List Ev) : Prop := ∀ (i : Nat) (x y : Ev), es[i]? = some x → fs[i]? = some y → sameE x.1 y.1 = true
set_option maxRecDepth 100000 in
theorem alike_any (p q : Option Addr) (c d n m : Nat) (es fs : List Ev) (w : World) (hn : n = es.length) (hm : m = fs.length) (ha : Ents w p c es) (hb : Ents w q d fs) (hl : es.length = fs.length) (hsm : es.length ≤ 1048576) :
    Calls Tryd.prog 27 #[.slice p n c, .slice q m d] w fun e w' => ∃ b : Bool, e = .returned (.bool b) ∧ (b = true ↔ AllSame es fs) ∧ Mod [] w w' := by
  obtain rfl : m = n := by omega
  have HA := Lib.hid ha
  have HB := Lib.hid hb
  have HN := Lib.hid hn
  have HM' := Lib.hid hm
  have h20 : m ≤ 1048576 := by omega
  have hne : ((m : Int) != (m : Int)) = false := by simp
  clear ha hb hn hm hl hsm
  go_enter Tryd.func27, Tryd.ntmps27
  go_wp2_with fail
  go_loopw [5] (fun iv wr => ∃ i : Nat, i ≤ m ∧ iv = .int .i64 i ∧ Hid (∀ (j : Nat) (x y : Ev), j < i → es[j]? = some x → fs[j]? = some y → sameE x.1 y.1 = true) ∧ Mod [] w wr) (fun iv _ => m - (intOf iv).toNat)
  case atStart => exact ⟨0, by omega, rfl, Lib.hid (fun j x y hj => absurd hj (by omega)), Mod.refl _ _⟩
  case round =>
    obtain ⟨i, hi, rfl, HS, hm⟩ := hrel
    have HM := Lib.hid hm
    clear hm
    by_cases hlt : i < m
    · obtain ⟨x, hx⟩ : ∃ x, es[i]? = some x := ⟨es[i]'(by rw [← HN.out]; exact hlt), List.getElem?_eq_getElem _⟩
      obtain ⟨y, hy⟩ : ∃ y, fs[i]? = some y := ⟨fs[i]'(by rw [← HM'.out]; exact hlt), List.getElem?_eq_getElem _⟩
      obtain ⟨b1, o1, hp, hr1⟩ := HA.out.rd.elem evc_len i x hx
      obtain ⟨b2, o2, hq, hr2⟩ := HB.out.rd.elem evc_len i y hy
      have hL1 := (enAt x.2 (range_mod HM.out.drew hr1 (by simp))).ln
      have hL2 := (enAt y.2 (range_mod HM.out.drew hr2 (by simp))).ln
      have hsame := same_any x.1 y.1 wr.drew x.2 y.2 ((HA.out.body x (List.mem_of_getElem? hx)).mod0 HM.out.drew) ((HB.out.body y (List.mem_of_getElem? hy)).mod0 HM.out.drew)
      obtain ⟨bb, hbb⟩ : ∃ bb, bb = sameE x.1 y.1 := ⟨_, rfl⟩
      rw [← hbb] at hsame
      have HBB := Lib.hid hbb
      have HX := Lib.hid hx
      have HY := Lib.hid hy
      clear hbb
      have HSAME := Lib.hid hsame
      obtain ⟨xs, hxs⟩ : ∃ xs, xs = x.1.cells.toArray := ⟨_, rfl⟩
      obtain ⟨ys, hys⟩ : ∃ ys, ys = y.1.cells.toArray := ⟨_, rfl⟩
      rw [← hxs] at hL1 HSAME
      rw [← hys] at hL2 HSAME
      have q0 : (0 : Int) ≤ (i : Int) := by omega
      have q1 : (i : Int) < (m : Int) := by omega
      subst hp hq
      clear hsame hr1 hr2 hx hy hxs hys
      cases bb
      · go_wp2_with fail
        go_region_law (go_simp; go_at_call 16; refine (HSAME.out).mono ?_
                       rintro _ w6 ⟨rfl, m6⟩)
        all_goals
          have HM6 := Lib.hid (HM.out.drew.trans0 m6)
          clear m6 hL1 hL2
          go_wp2_with fail
          go_ret
          have hns : ¬ AllSame es fs := fun h => by
            have h9 := h i x y HX.out HY.out
            rw [← HBB.out] at h9; cases h9
          first | exact .inl ⟨rfl, hns, HM6.out⟩ | exact ⟨_, rfl, by simpa using hns, HM6.out⟩
      · go_wp2_with fail
        go_region_law (go_simp; go_at_call 16; refine (HSAME.out).mono ?_
                       rintro _ w6 ⟨rfl, m6⟩)
        all_goals
          have HM6 := Lib.hid (HM.out.drew.trans0 m6)
          clear m6 hL1 hL2
          go_wp2_with fail
          go_roundw
          case rel => exact ⟨i + 1, hlt, by go_num, Lib.hid (fun j x' y' hj hx' hy' => by
            by_cases hji : j < i
            · exact HS.out j x' y' hji hx' hy'
            · obtain rfl : j = i := by omega
              have e1 := HX.out.symm.trans hx'
              have e2 := HY.out.symm.trans hy'
              injection e1 with e1
              injection e2 with e2
              rw [← e1, ← e2]; exact HBB.out.symm), HM6.out⟩
          case measure => simp [intOf]; omega
    · have hin : i = m := by omega
      have HALL := Lib.hid (show AllSame es fs from fun j x y hx hy => HS.out j x y (by have := (List.getElem?_eq_some_iff.1 hx).1; have := HN.out; omega) hx hy)
      have q9 : ¬ ((i : Int) < (m : Int)) := by omega
      go_wp2_with fail
      go_ret
      first | exact .inr ⟨rfl, HALL.out, HM.out⟩ | exact ⟨_, rfl, by simpa using HALL.out, HM.out⟩
end Go.Proofs.YtmdgefiojapogaaDoor
namespace Go.Proofs.YtmdgefiojapogaaDoor
open Go.RowKit
theorem form_eq {n m : Nat} {u v : Bs} (hn : n < 18446744073709551616) (hm : m < 18446744073709551616) (h : form n ++ u = form m ++ v) : n = m ∧ u = v := by
  obtain ⟨rfl, _⟩ := form_pre hn hm (show form n ++ u <+: form m ++ v by rw [h]; exact List.prefix_rfl)
  exact ⟨rfl, List.append_cancel_left h⟩
theorem short_eq {a b u v : Bs} (ha : a.length ≤ 255) (hb : b.length ≤ 255) (hl : a.length = b.length) (h : short a ++ u = short b ++ v) : a = b ∧ u = v := by
  have h1 := bare_inj (short_pre ha hb (show short a ++ u <+: short b ++ v by rw [h]; exact List.prefix_rfl)).1 hl
  subst h1
  exact ⟨rfl, List.append_cancel_left h⟩
theorem sameE_iff (x y : En) : sameE x y = true ↔ x.kind = y.kind ∧ x.snd = y.snd ∧ x.time = y.time ∧ x.tok = y.tok ∧ x.to = y.to ∧ x.amt = y.amt ∧ x.gas = y.gas ∧ x.body.d = y.body.d := by
  unfold sameE
  simp only [Bool.and_eq_true, beq_iff_eq, and_assoc]
theorem fine_call_all {x : En} (h : x.fine = true) (hk : x.kind = 2) : (0 ≤ x.time ∧ x.time ≤ 4611686018427387904) ∧ x.tok = 0 ∧ x.to = zeros 20 ∧ x.amt = [0, 0, 0, 0] ∧ x.gas = 0 ∧ x.body.d.length ≤ 4096 := by
  unfold En.fine at h
  rw [if_neg (by rw [hk]; decide), if_pos hk] at h
  simp only [Bool.and_eq_true, decide_eq_true_eq, En.timeOk, beq_iff_eq] at h
  obtain ⟨⟨⟨⟨⟨h1, h2⟩, h3⟩, h4⟩, h5⟩, h6⟩ := h
  exact ⟨h1, h2, h3, h4, h5, h6⟩
theorem fine_dep_body {x : En} (h : x.fine = true) (hk : x.kind = 1) : x.body.d = [] := by
  unfold En.fine at h
  rw [if_pos hk] at h
  simp only [Bool.and_eq_true, decide_eq_true_eq] at h
  exact List.eq_nil_of_length_eq_zero h.2
theorem same_of_bytes {x y : En} (hx : x.Ln) (hy : y.Ln) (fx : x.fine = true) (fy : y.fine = true) (h : x.bytes = y.bytes) : sameE x y = true := by
  rw [sameE_iff]
  unfold En.bytes at h
  simp only [List.append_assoc, List.cons_append, List.nil_append, List.cons.injEq] at h
  obtain ⟨h1, h2⟩ := h
  obtain ⟨h3, h4⟩ := List.append_inj h2 (by rw [hx.s20, hy.s20])
  rcases fine_kind fx with kx | kx <;> rcases fine_kind fy with ky | ky
  · have dx := fine_dep fx kx
    have dy := fine_dep fy ky
    obtain ⟨h5, h6⟩ := form_eq (by omega) (by omega) h4
    rw [kx, ky, if_neg (by decide), if_neg (by decide)] at h6
    obtain ⟨h7, h8⟩ := form_eq (by omega) (by omega) h6
    obtain ⟨h9, h10⟩ := List.append_inj h8 (by rw [hx.t20, hy.t20])
    obtain ⟨h11, h12⟩ := short_eq (by rw [be32_length]; omega) (by rw [be32_length]; omega) (by rw [be32_length, be32_length]) h10
    obtain ⟨h13, _⟩ := form_eq (n := x.gas.toNat) (m := y.gas.toNat) (u := []) (v := []) (by omega) (by omega) (by simpa using h12)
    exact ⟨by rw [kx, ky], h3, by omega, by omega, h9, be32_inj hx.a4 hy.a4 h11, by omega, by rw [fine_dep_body fx kx, fine_dep_body fy ky]⟩
  · rw [kx, ky] at h1
    exact absurd h1 (by decide)
  · rw [kx, ky] at h1
    exact absurd h1 (by decide)
  · obtain ⟨tx, a1, a2, a3, a4, a5⟩ := fine_call_all fx kx
    obtain ⟨ty, b1, b2, b3, b4, b5⟩ := fine_call_all fy ky
    obtain ⟨h5, h6⟩ := form_eq (by omega) (by omega) h4
    rw [kx, ky, if_pos rfl, if_pos rfl] at h6
    obtain ⟨_, h8⟩ := form_eq (by omega) (by omega) h6
    exact ⟨by rw [kx, ky], h3, by omega, by rw [a1, b1], by rw [a2, b2], by rw [a3, b3], by rw [a4, b4], h8⟩
theorem fine_same {x y : En} (h : sameE x y = true) : x.fine = y.fine := by
  obtain ⟨h1, h2, h3, h4, h5, h6, h7, h8⟩ := (sameE_iff x y).1 h
  unfold En.fine En.timeOk En.tokOk En.gasOk
  rw [h1, h3, h4, h5, h6, h7, h8]
theorem bytes_same {x y : En} (h : sameE x y = true) : x.bytes = y.bytes := by
  obtain ⟨h1, h2, h3, h4, h5, h6, h7, h8⟩ := (sameE_iff x y).1 h
  unfold En.bytes
  rw [h1, h2, h3, h4, h5, h6, h7, h8]
theorem nextH_same (hf : Bs → Bs) (k : Bs) {x y : En} (h : sameE x y = true) : nextH hf k x = nextH hf k y := by
  unfold nextH
  rw [fine_same h, bytes_same h]
theorem sameE_symm (x y : En) : sameE x y = sameE y x := by
  rw [Bool.eq_iff_iff, sameE_iff, sameE_iff]
  constructor <;> rintro ⟨h1, h2, h3, h4, h5, h6, h7, h8⟩ <;> exact ⟨h1.symm, h2.symm, h3.symm, h4.symm, h5.symm, h6.symm, h7.symm, h8.symm⟩
/-- The length of the longest first part that two rows have in common. -/
structure IsFork (es fs : List Ev) (F : Nat) : Prop where
  le : F ≤ es.length
  le2 : F ≤ fs.length
  same : ∀ (j : Nat) (x y : Ev), j < F → es[j]? = some x → fs[j]? = some y → sameE x.1 y.1 = true
  un : ∀ (x y : Ev), es[F]? = some x → fs[F]? = some y → sameE x.1 y.1 = false
theorem IsFork.symm {es fs : List Ev} {F : Nat} (h : IsFork es fs F) : IsFork fs es F :=
  ⟨h.le2, h.le, fun j x y hj hx hy => by rw [sameE_symm]; exact h.same j y x hj hy hx, fun x y hx hy => by rw [sameE_symm]; exact h.un y x hy hx⟩
theorem IsFork.uniq {es fs : List Ev} {F G : Nat} (h : IsFork es fs F) (k : IsFork es fs G) : F = G := by
  have key : ∀ {A B : Nat}, IsFork es fs A → IsFork es fs B → ¬ A < B := fun {A B} h k hlt => by
    have hx : es[A]? = some (es[A]'(by have := k.le; omega)) := List.getElem?_eq_getElem _
    have hy : fs[A]? = some (fs[A]'(by have := k.le2; omega)) := List.getElem?_eq_getElem _
    have h1 := h.un _ _ hx hy
    rw [k.same A _ _ hlt hx hy] at h1
    cases h1
  have := key h k
  have := key k h
  omega
theorem Copies.back {es out : List Ev} (h : Copies es out) {i : Nat} {z : Ev} (hz : out[i]? = some z) : ∃ (x : Ev) (y : SlR), es[i]? = some x ∧ z.1 = x.1.wb y ∧ y.d = x.1.body.d := by
  have hi := (List.getElem?_eq_some_iff.1 hz).1
  have hi2 : i < es.length := by rw [← h.len]; exact hi
  obtain ⟨z', y, hz', h1, h2⟩ := h.each i es[i] (List.getElem?_eq_getElem hi2)
  rw [hz] at hz'
  injection hz' with hz'
  subst hz'
  exact ⟨_, y, List.getElem?_eq_getElem hi2, h1, h2⟩
theorem sameE_wb2 (x x' : En) (y y' : SlR) (h : y.d = x.body.d) (h' : y'.d = x'.body.d) : sameE (x.wb y) (x'.wb y') = sameE x x' := by
  unfold sameE En.wb
  simp only [h, h']
theorem IsFork.copies {es fs es' fs' : List Ev} {F : Nat} (h : IsFork es' fs' F) (c : Copies es es') (d : Copies fs fs') : IsFork es fs F := by
  refine ⟨by rw [← c.len]; exact h.le, by rw [← d.len]; exact h.le2, fun j x y hj hx hy => ?_, fun x y hx hy => ?_⟩
  · obtain ⟨z, u, hz, e1, e2⟩ := c.each j x hx
    obtain ⟨z', u', hz', e3, e4⟩ := d.each j y hy
    have h1 := h.same j z z' hj hz hz'
    rw [e1, e3, sameE_wb2 _ _ _ _ e2 e4] at h1
    exact h1
  · obtain ⟨z, u, hz, e1, e2⟩ := c.each F x hx
    obtain ⟨z', u', hz', e3, e4⟩ := d.each F y hy
    have h1 := h.un z z' hz hz'
    rw [e1, e3, sameE_wb2 _ _ _ _ e2 e4] at h1
    exact h1
/-- Links are the same as far as entries are. -/
theorem linkI_fork (hf : Bs → Bs) (k : Bs) {es fs : List Ev} {F : Nat} (h : IsFork es fs F) : ∀ i : Nat, i ≤ F → linkI hf k (es.take i) = linkI hf k (fs.take i) := by
  intro i
  induction i with
  | zero => intro _; rfl
  | succ i ih =>
    intro hi
    have hx : es[i]? = some (es[i]'(by have := h.le; omega)) := List.getElem?_eq_getElem _
    have hy : fs[i]? = some (fs[i]'(by have := h.le2; omega)) := List.getElem?_eq_getElem _
    rw [linkI_succ hf k es i _ hx, linkI_succ hf k fs i _ hy, ih (by omega), nextH_same hf _ (h.same i _ _ (by omega) hx hy)]
/-- Two unlike texts of one digest, at one place. -/
def Clash (hf : Bs → Bs) (k : Bs) (es fs : List Ev) (i : Nat) : Prop :=
  ∃ x y : Ev, es[i]? = some x ∧ fs[i]? = some y ∧ linkI hf k (es.take i) ++ x.1.bytes ≠ linkI hf k (fs.take i) ++ y.1.bytes ∧ hf (linkI hf k (es.take i) ++ x.1.bytes) = hf (linkI hf k (fs.take i) ++ y.1.bytes)
theorem clash_of (hf : Bs → Bs) (hl : ∀ d, (hf d).length = 32) (k : Bs) (hk : k.length = 32) (es fs : List Ev) (fe : ∀ x ∈ es, x.1.fine = true) (ff : ∀ x ∈ fs, x.1.fine = true) :
    ∀ n : Nat, n ≤ es.length → n ≤ fs.length → linkI hf k (es.take n) = linkI hf k (fs.take n) → (∃ (j : Nat) (x y : Ev), j < n ∧ es[j]? = some x ∧ fs[j]? = some y ∧ sameE x.1 y.1 = false) → ∃ j, j < n ∧ Clash hf k es fs j := by
  intro n
  induction n with
  | zero => rintro _ _ _ ⟨j, _, _, hj, _⟩; omega
  | succ n ih =>
    intro h1 h2 he hu
    obtain ⟨xe, hx⟩ : ∃ xe, es[n]? = some xe := ⟨es[n]'(by omega), List.getElem?_eq_getElem _⟩
    obtain ⟨ye, hy⟩ : ∃ ye, fs[n]? = some ye := ⟨fs[n]'(by omega), List.getElem?_eq_getElem _⟩
    have fx := fe _ (List.mem_of_getElem? hx)
    have fy := ff _ (List.mem_of_getElem? hy)
    have he2 := he
    rw [linkI_succ hf k es n _ hx, linkI_succ hf k fs n _ hy] at he2
    unfold nextH at he2
    rw [if_pos fx, if_pos fy] at he2
    by_cases ht : linkI hf k (es.take n) ++ xe.1.bytes = linkI hf k (fs.take n) ++ ye.1.bytes
    · obtain ⟨t1, t2⟩ := List.append_inj ht (by rw [linkI_len hl _ _ hk, linkI_len hl _ _ hk])
      have hs := same_of_bytes xe.2 ye.2 fx fy t2
      obtain ⟨j, x, y, hj, q1, q2, q3⟩ := hu
      have hjn : j < n := by
        rcases Nat.lt_or_ge j n with h | h
        · exact h
        · obtain rfl : j = n := by omega
          rw [hx] at q1
          rw [hy] at q2
          injection q1 with q1
          injection q2 with q2
          rw [← q1, ← q2, hs] at q3
          cases q3
      obtain ⟨j', hj', hc⟩ := ih (by omega) (by omega) t1 ⟨j, x, y, hjn, q1, q2, q3⟩
      exact ⟨j', by omega, hc⟩
    · exact ⟨n, by omega, _, _, hx, hy, ht, he2⟩
theorem Clash.take {hf : Bs → Bs} {k : Bs} {es fs : List Ev} {i n : Nat} (h : Clash hf k es fs i) (hi : i < n) : Clash hf k (es.take n) (fs.take n) i := by
  obtain ⟨x, y, h1, h2, h3, h4⟩ := h
  have e : ∀ l : List Ev, (l.take n).take i = l.take i := fun l => by rw [List.take_take, Nat.min_eq_left (by omega)]
  refine ⟨x, y, by rw [List.getElem?_take, if_pos hi]; exact h1, by rw [List.getElem?_take, if_pos hi]; exact h2, ?_, ?_⟩ <;> rw [e, e] <;> assumption
theorem fork_all {es fs : List Ev} {F n : Nat} (h : IsFork es fs F) (he : n ≤ es.length) (hf : n ≤ fs.length) : AllSame (es.take n) (fs.take n) ↔ n ≤ F := by
  constructor
  · intro ha
    rcases Nat.lt_or_ge F n with hlt | hge
    · have hx : es[F]? = some (es[F]'(by omega)) := List.getElem?_eq_getElem _
      have hy : fs[F]? = some (fs[F]'(by omega)) := List.getElem?_eq_getElem _
      have h1 := ha F _ _ (by rw [List.getElem?_take, if_pos hlt]; exact hx) (by rw [List.getElem?_take, if_pos hlt]; exact hy)
      rw [h.un _ _ hx hy] at h1
      cases h1
    · exact hge
  · intro hn i x y hx hy
    have hi := (List.getElem?_eq_some_iff.1 hx).1
    rw [List.length_take] at hi
    rw [List.getElem?_take, if_pos (by omega)] at hx hy
    exact h.same i x y (by omega) hx hy
end Go.Proofs.YtmdgefiojapogaaDoor
namespace Go.Proofs.YtmdgefiojapogaaDoor
open Go.RowKit
attribute [local go_sem high] one8 st8 cm8 b_and8 b_and8r b_and8l b_or8 b_or8r b_or8l b_xor8 b_xor8r b_xor8l b_andNot8 b_andNot8r b_andNot8l b_add8 b_add8r b_add8l b_sub8 b_sub8r b_sub8l b_mul8 b_mul8r b_mul8l b_eql8 b_eql8r b_eql8l b_neq8 b_neq8r b_neq8l b_lss8 b_lss8r b_lss8l b_leq8 b_leq8r b_leq8l b_gtr8 b_gtr8r b_gtr8l b_geq8 b_geq8r b_geq8l b_quo8r b_rem8r b_shl8r b_shr8r b_shl8l b_shr8l u_xor8 g_eql8 g_neq8 g_eql8' g_neq8' one32 st32 cm32 b_and32 b_and32r b_and32l b_or32 b_or32r b_or32l b_xor32 b_xor32r b_xor32l b_andNot32 b_andNot32r b_andNot32l b_add32 b_add32r b_add32l b_sub32 b_sub32r b_sub32l b_mul32 b_mul32r b_mul32l b_eql32 b_eql32r b_eql32l b_neq32 b_neq32r b_neq32l b_lss32 b_lss32r b_lss32l b_leq32 b_leq32r b_leq32l b_gtr32 b_gtr32r b_gtr32l b_geq32 b_geq32r b_geq32l b_quo32r b_rem32r b_shl32r b_shr32r b_shl32l b_shr32l u_xor32 g_eql32 g_neq32 g_eql32' g_neq32' one64 st64 cm64 b_and64 b_and64r b_and64l b_or64 b_or64r b_or64l b_xor64 b_xor64r b_xor64l b_andNot64 b_andNot64r b_andNot64l b_add64 b_add64r b_add64l b_sub64 b_sub64r b_sub64l b_mul64 b_mul64r b_mul64l b_eql64 b_eql64r b_eql64l b_neq64 b_neq64r b_neq64l b_lss64 b_lss64r b_lss64l b_leq64 b_leq64r b_leq64l b_gtr64 b_gtr64r b_gtr64l b_geq64 b_geq64r b_geq64l b_quo64r b_rem64r b_shl64r b_shr64r b_shl64l b_shr64l u_xor64 g_eql64 g_neq64 g_eql64' g_neq64' c_u8_u8 c_u8_u32 c_u8_u64 c_i_u8 c_u32_u8 c_u32_u32 c_u32_u64 c_i_u32 c_u64_u8 c_u64_u32 c_u64_u64 c_i_u64 c_u8_i c_u32_i
attribute [local go_sem ↓] ce8 ce32 ce64
attribute [local go_sem ↓] sliced_slp loadO26 storeO26 loadOEn storeOEn buildZDg buildZEn
set_option maxRecDepth 100000 in
set_option maxHeartbeats 8000000 in
theorem fork_any (B g B2 g2 : Nat) (ve vl ve2 vl2 : Value) (es fs : List Ev) (ks ls : List Bs) (w : World) (h : IsBox w B g ve vl es ks) (h2 : IsBox w B2 g2 ve2 vl2 fs ls) :
    Calls Tryd.prog 33 #[.pointer (some ⟨g, 0, none⟩), .pointer (some ⟨g2, 0, none⟩)] w fun e w' => ∃ F : Nat, e = .returned (.int .i64 F) ∧ IsFork es fs F ∧ Mod [] w w' := by
  have HB := Lib.hid h
  have HB2 := Lib.hid h2
  obtain ⟨pe, ce, rfl, hre, _⟩ := h.own.rd
  obtain ⟨pf, cf, rfl, hrf, _⟩ := h2.own.rd
  have HRE := Lib.hid hre
  have HRF := Lib.hid hrf
  have hsm := h.small
  have hsm2 := h2.small
  obtain ⟨l, hl⟩ : ∃ l, l = es.length := ⟨_, rfl⟩
  obtain ⟨m, hm⟩ : ∃ m, m = fs.length := ⟨_, rfl⟩
  rw [← hl] at hsm HB
  rw [← hm] at hsm2 HB2
  have HL := Lib.hid hl
  have HM := Lib.hid hm
  clear h h2 hre hrf hl hm
  go_enter Tryd.func33, Tryd.ntmps33
  go_wp2_with fail
  go_loopw [5] (fun iv wr => ∃ i : Nat, i ≤ l ∧ i ≤ m ∧ iv = .int .i64 i ∧ Hid (∀ (j : Nat) (x y : Ev), j < i → es[j]? = some x → fs[j]? = some y → sameE x.1 y.1 = true) ∧ Mod [] w wr) (fun iv _ => l - (intOf iv).toNat)
  case atStart => exact ⟨0, by omega, by omega, rfl, Lib.hid (fun j x y hj => absurd hj (by omega)), Mod.refl _ _⟩
  case round =>
    obtain ⟨i, hi, hi2, rfl, HS, hmm⟩ := hrel
    have HMM := Lib.hid hmm
    have k1 := (HB.out.mod0 hmm.drew).c0
    have k2 := (HB2.out.mod0 hmm.drew).c0
    clear hmm
    by_cases hlt : i < l
    · by_cases hlt2 : i < m
      · obtain ⟨x, hx⟩ : ∃ x, es[i]? = some x := ⟨es[i]'(by rw [← HL.out]; exact hlt), List.getElem?_eq_getElem _⟩
        obtain ⟨y, hy⟩ : ∃ y, fs[i]? = some y := ⟨fs[i]'(by rw [← HM.out]; exact hlt2), List.getElem?_eq_getElem _⟩
        obtain ⟨b1, o1, hp, hr1⟩ := HRE.out.elem evc_len i x hx
        obtain ⟨b2, o2, hq, hr2⟩ := HRF.out.elem evc_len i y hy
        have hL1 := (enAt x.2 (range_mod HMM.out.drew hr1 (by simp))).ln
        have hL2 := (enAt y.2 (range_mod HMM.out.drew hr2 (by simp))).ln
        have hbx := HB.out.body x (List.mem_of_getElem? hx)
        have hby := HB2.out.body y (List.mem_of_getElem? hy)
        have hsame := alikeP_any x.1 y.1 wr.drew x.2 y.2 ((own_rd hbx.1).mod0 HMM.out.drew) ((own_rd hby.1).mod0 HMM.out.drew) hbx.2
        obtain ⟨bb, hbb⟩ : ∃ bb, bb = sameE x.1 y.1 := ⟨_, rfl⟩
        rw [← hbb] at hsame
        have HBB := Lib.hid hbb
        have HX := Lib.hid hx
        have HY := Lib.hid hy
        obtain ⟨xs, hxs⟩ : ∃ xs, xs = x.1.cells.toArray := ⟨_, rfl⟩
        obtain ⟨ys, hys⟩ : ∃ ys, ys = y.1.cells.toArray := ⟨_, rfl⟩
        have HSAME := Lib.hid hsame
        rw [← hxs] at hL1 HSAME
        rw [← hys] at hL2 HSAME
        have q0 : (0 : Int) ≤ (i : Int) := by omega
        have q1 : (i : Int) < (l : Int) := by omega
        have q2 : (i : Int) < (m : Int) := by omega
        have d1 : decide ((i : Int) < (l : Int)) = true := by simpa using q1
        have d2 : decide ((i : Int) < (m : Int)) = true := by simpa using q2
        subst hp hq
        clear hsame hr1 hr2 hx hy hxs hys hbb hbx hby
        go_wp2_with fail
        go_still_tail 31, (by kernel_rfl)
        change wpList _ _ _ _ _ wr.drew
        cases bb
        · go_wp2_with fail
          refine HSAME.out.mono ?_
          rintro _ w6 ⟨rfl, m6⟩
          have HM6 := Lib.hid (HMM.out.drew.trans0 m6)
          clear m6 hL1 hL2
          go_wp2_with fail
          go_ret
          exact ⟨i, rfl, ⟨by rw [← HL.out]; exact hi, by rw [← HM.out]; exact hi2, HS.out, fun x' y' hx' hy' => by
            have e1 := HX.out.symm.trans hx'
            have e2 := HY.out.symm.trans hy'
            injection e1 with e1
            injection e2 with e2
            rw [← e1, ← e2]; exact HBB.out.symm⟩, HM6.out⟩
        · go_wp2_with fail
          refine HSAME.out.mono ?_
          rintro _ w6 ⟨rfl, m6⟩
          have HM6 := Lib.hid (HMM.out.drew.trans0 m6)
          clear m6 hL1 hL2
          go_wp2_with fail
          go_roundw
          case rel => exact ⟨i + 1, by omega, by omega, by go_num, Lib.hid (fun j x' y' hj hx' hy' => by
            by_cases hji : j < i
            · exact HS.out j x' y' hji hx' hy'
            · obtain rfl : j = i := by omega
              have e1 := HX.out.symm.trans hx'
              have e2 := HY.out.symm.trans hy'
              injection e1 with e1
              injection e2 with e2
              rw [← e1, ← e2]; exact HBB.out.symm), HM6.out⟩
          case measure => simp [intOf]; omega
      · obtain rfl : i = m := by omega
        have d1 : decide ((i : Int) < (l : Int)) = true := by simp; omega
        have d2 : decide ((i : Int) < (i : Int)) = false := by simp
        have HN := Lib.hid (show fs[i]? = none from List.getElem?_eq_none (by rw [← HM.out]; exact Nat.le_refl _))
        have k1q := fun n => (HB.out.mod0 (HMM.out.drewN n)).c0
        have k2q := fun n => (HB2.out.mod0 (HMM.out.drewN n)).c0
        go_wp2_with fail
        go_quiet (fail)
        have HMF := Lib.hid (HMM.out.drewN nq)
        clear k1 k2 k1q k2q
        go_wp2_with fail
        go_ret
        exact ⟨i, rfl, ⟨by rw [← HL.out]; exact hi, by rw [← HM.out]; exact hi2, HS.out, fun x' y' hx' hy' => by
            rw [HN.out] at hy'; cases hy'⟩, HMF.out⟩
    · obtain rfl : i = l := by omega
      have d1 : decide ((i : Int) < (i : Int)) = false := by simp
      have HN := Lib.hid (show es[i]? = none from List.getElem?_eq_none (by rw [← HL.out]; exact Nat.le_refl _))
      have k1q := fun n => (HB.out.mod0 (HMM.out.drewN n)).c0
      have k2q := fun n => (HB2.out.mod0 (HMM.out.drewN n)).c0
      go_wp2_with fail
      go_quiet (fail)
      have HMF := Lib.hid (HMM.out.drewN nq)
      clear k1 k2 k1q k2q
      go_wp2_with fail
      go_ret
      exact ⟨i, rfl, ⟨by rw [← HL.out]; exact hi, by rw [← HM.out]; exact hi2, HS.out, fun x' y' hx' hy' => by
            rw [HN.out] at hx'; cases hx'⟩, HMF.out⟩
end Go.Proofs.YtmdgefiojapogaaDoor
