/- EntryBytes of letter and of its reference. Condition: none but the entry's own lengths. -/
import Derived.Test.YtmdgefiojapogaaDoorInCheck
namespace Go.Proofs.YtmdgefiojapogaaDoor
open Go.RowKit
attribute [local go_sem high] one8 st8 cm8 b_and8 b_and8r b_and8l b_or8 b_or8r b_or8l b_xor8 b_xor8r b_xor8l b_andNot8 b_andNot8r b_andNot8l b_add8 b_add8r b_add8l b_sub8 b_sub8r b_sub8l b_mul8 b_mul8r b_mul8l b_eql8 b_eql8r b_eql8l b_neq8 b_neq8r b_neq8l b_lss8 b_lss8r b_lss8l b_leq8 b_leq8r b_leq8l b_gtr8 b_gtr8r b_gtr8l b_geq8 b_geq8r b_geq8l b_quo8r b_rem8r b_shl8r b_shr8r b_shl8l b_shr8l u_xor8 g_eql8 g_neq8 g_eql8' g_neq8' one32 st32 cm32 b_and32 b_and32r b_and32l b_or32 b_or32r b_or32l b_xor32 b_xor32r b_xor32l b_andNot32 b_andNot32r b_andNot32l b_add32 b_add32r b_add32l b_sub32 b_sub32r b_sub32l b_mul32 b_mul32r b_mul32l b_eql32 b_eql32r b_eql32l b_neq32 b_neq32r b_neq32l b_lss32 b_lss32r b_lss32l b_leq32 b_leq32r b_leq32l b_gtr32 b_gtr32r b_gtr32l b_geq32 b_geq32r b_geq32l b_quo32r b_rem32r b_shl32r b_shr32r b_shl32l b_shr32l u_xor32 g_eql32 g_neq32 g_eql32' g_neq32' one64 st64 cm64 b_and64 b_and64r b_and64l b_or64 b_or64r b_or64l b_xor64 b_xor64r b_xor64l b_andNot64 b_andNot64r b_andNot64l b_add64 b_add64r b_add64l b_sub64 b_sub64r b_sub64l b_mul64 b_mul64r b_mul64l b_eql64 b_eql64r b_eql64l b_neq64 b_neq64r b_neq64l b_lss64 b_lss64r b_lss64l b_leq64 b_leq64r b_leq64l b_gtr64 b_gtr64r b_gtr64l b_geq64 b_geq64r b_geq64l b_quo64r b_rem64r b_shl64r b_shr64r b_shl64l b_shr64l u_xor64 g_eql64 g_neq64 g_eql64' g_neq64' c_u8_u8 c_u8_u32 c_u8_u64 c_i_u8 c_u32_u8 c_u32_u32 c_u32_u64 c_i_u32 c_u64_u8 c_u64_u32 c_u64_u64 c_i_u64 c_u8_i c_u32_i
attribute [local go_sem ↓] ce8 ce32 ce64
attribute [local go_sem ↓] sliced_slp loadOAd storeOAd loadOWd storeOWd loadOEn storeOEn
theorem lay_fit {b x : Bs} (h : b.length + x.length ≤ 4194304) : (Wr.mk b 0).lay x = ⟨b ++ x, 0⟩ := by
  unfold Wr.lay
  rw [if_neg (by simp), if_neg (by simp only; omega)]
theorem num_fit {b : Bs} {n : Int} (h0 : 0 ≤ n) (h : b.length + 9 ≤ 4194304) : (Wr.mk b 0).number n = ⟨b ++ form n.toNat, 0⟩ := by
  unfold Wr.number
  rw [if_neg (by omega), lay_fit]
  have := form_length n.toNat
  omega
namespace En
/-- An entry's bytes. -/
def bytes (x : En) : Bs := [byteOf x.kind] ++ x.snd ++ form x.time.toNat ++ (if x.kind = 2 then form x.body.d.length ++ x.body.d else form x.tok.toNat ++ x.to ++ short (be32 x.amt) ++ form x.gas.toNat)
end En
theorem bytes_call {x : En} (hk : x.kind = 2) : x.bytes = [byteOf x.kind] ++ x.snd ++ form x.time.toNat ++ (form x.body.d.length ++ x.body.d) := by unfold En.bytes; rw [if_pos hk]
theorem bytes_dep {x : En} (hk : x.kind = 1) : x.bytes = [byteOf x.kind] ++ x.snd ++ form x.time.toNat ++ (form x.tok.toNat ++ x.to ++ short (be32 x.amt) ++ form x.gas.toNat) := by unfold En.bytes; rw [if_neg (by rw [hk]; decide)]
theorem fine_call {x : En} (h : x.fine = true) (hk : x.kind = 2) : (0 ≤ x.time ∧ x.time ≤ 4611686018427387904) ∧ x.body.d.length ≤ 4096 := by
  unfold En.fine at h
  rw [if_neg (by rw [hk]; decide), if_pos hk] at h
  simp only [Bool.and_eq_true, decide_eq_true_eq, En.timeOk] at h
  exact ⟨h.1.1.1.1.1, h.2⟩
theorem fine_dep {x : En} (h : x.fine = true) (hk : x.kind = 1) : (0 ≤ x.time ∧ x.time ≤ 4611686018427387904) ∧ 0 ≤ x.tok ∧ x.tok ≤ 63 ∧ 0 ≤ x.gas ∧ x.gas ≤ 1099511627776 := by
  unfold En.fine at h
  rw [if_pos hk] at h
  simp only [Bool.and_eq_true, decide_eq_true_eq, En.timeOk, En.tokOk, En.gasOk] at h
  exact ⟨h.1.1.1.1, h.1.1.1.2.1, h.1.1.1.2.2, h.1.2.1, h.1.2.2⟩
theorem bytes_len {x : En} (hl : x.Ln) (h : x.fine = true) : x.bytes.length ≤ 4200 := by
  have h1 := form_length x.time.toNat
  have h2 := form_length x.body.d.length
  have h3 := form_length x.tok.toNat
  have h4 := form_length x.gas.toNat
  have h5 := short_length (be32 x.amt)
  rw [be32_length] at h5
  have h6 := hl.s20
  have h7 := hl.t20
  by_cases hk : x.kind = 2
  · have h8 := (fine_call h hk).2
    rw [bytes_call hk]; simp; omega
  · unfold En.bytes; rw [if_neg hk]; simp; omega
/-- What EntryBytes hands back. -/
def BytesE (x : En) (w : World) (e : Ending) (w' : World) : Prop :=
  ∃ v, e = .returned (.tuple #[v, .int .i64 x.chk]) ∧ (if x.chk = 0 then Own w' w.heap.size v x.bytes else v = .slice none 0 0) ∧ Mod [] w w'
/-- A writer of the call's own that holds b. -/
def Ws (w0 w : World) (g : Nat) (b : Bs) : Prop := ∃ v, IsW w w0.heap.size g v ⟨b, 0⟩ ∧ Mod [] w0 w
namespace Ws
variable {w0 w : World} {g : Nat} {b : Bs}
theorem of {W : Wr} {b' : Bs} {v : Value} {e : Ending} {w' : World} (hi : IsW w w0.heap.size g v ⟨b, 0⟩) (hm : Mod [] w0 w) (hp : WrPost w0.heap.size g v W (.tuple #[]) w e w') (hW : W = ⟨b', 0⟩) : e = .returned (.tuple #[]) ∧ Ws w0 w' g b' := by
  subst hW
  obtain ⟨v', rfl, hi', m', _⟩ := hp
  exact ⟨rfl, v', hi', hm.trans m' (fun x hx => .inr (hi.foot_base x hx))⟩
theorem md (h : Ws w0 w g b) : Mod [] w0 w := by obtain ⟨_, _, m⟩ := h; exact m
theorem byte (h : Ws w0 w g b) (x : UInt8) (hl : b.length + 1 ≤ 4194304) : Calls Tryd.prog 53 #[.pointer (some ⟨g, 0, none⟩), V8 x] w fun e w' => e = .returned (.tuple #[]) ∧ Ws w0 w' g (b ++ [x]) := by
  obtain ⟨v, hi, hm⟩ := h
  exact (byteW_any _ g v _ w hi (by simp only; omega) x).mono fun e w' hp => of hi hm hp (lay_fit (by simpa using hl))
theorem addr (h : Ws w0 w g b) (d : Bs) (hd : d.length = 20) (hl : b.length + 20 ≤ 4194304) : Calls Tryd.prog 54 #[.pointer (some ⟨g, 0, none⟩), .agg (d.map V8).toArray] w fun e w' => e = .returned (.tuple #[]) ∧ Ws w0 w' g (b ++ d) := by
  obtain ⟨v, hi, hm⟩ := h
  exact (addressW_any _ g v _ w hi (by simp only; omega) d hd).mono fun e w' hp => of hi hm hp (lay_fit (by omega))
theorem num (h : Ws w0 w g b) (n : Int) (h0 : 0 ≤ n) (h1 : n ≤ 9223372036854775807) (hl : b.length + 9 ≤ 4194304) : Calls Tryd.prog 55 #[.pointer (some ⟨g, 0, none⟩), .int .i64 n] w fun e w' => e = .returned (.tuple #[]) ∧ Ws w0 w' g (b ++ form n.toNat) := by
  obtain ⟨v, hi, hm⟩ := h
  exact (number_any _ g v _ w hi (by simp only; omega) n h1).mono fun e w' hp => of hi hm hp (num_fit h0 hl)
theorem wide (h : Ws w0 w g b) (a : List UInt64) (ha : a.length = 4) (hl : b.length + 33 ≤ 4194304) : Calls Tryd.prog 57 #[.pointer (some ⟨g, 0, none⟩), .agg (a.map V64).toArray] w fun e w' => e = .returned (.tuple #[]) ∧ Ws w0 w' g (b ++ short (be32 a)) := by
  obtain ⟨v, hi, hm⟩ := h
  have h1 := short_length (be32 a)
  rw [be32_length] at h1
  exact (wideW_any _ g v _ w hi (by simp only; omega) a ha).mono fun e w' hp => of hi hm hp (lay_fit (by omega))
theorem bytes (h : Ws w0 w g b) (p : Option Addr) (cap n : Nat) (l : Bs) (a : World) (ha : a.heap.size ≤ w0.heap.size) (hr : Rd V8 a p cap l) (hr' : Rd V8 w p cap l) (hn : n = l.length) (hl : b.length + 9 + l.length ≤ 4194304) : Calls Tryd.prog 56 #[.pointer (some ⟨g, 0, none⟩), .slice p n cap] w fun e w' => e = .returned (.tuple #[]) ∧ Ws w0 w' g (b ++ (form l.length ++ l)) := by
  subst hn
  obtain ⟨v, hi, hm⟩ := h
  have h1 := form_length l.length
  exact (bytesW_any _ g v _ w hi (by simp only; omega) p cap l hr' (by omega) (fun hne q hq hx => by
    have h2 := hi.foot_base _ hx
    exact hr.off (g := q.block) (by omega) hne q hq (by simp))).mono fun e w' hp => of hi hm hp (lay_fit (by simp; omega))
end Ws
set_option maxRecDepth 100000 in
theorem ebytes_no (x : En) (w : World) (hl : x.Ln) (hc : x.fine = false) : Calls Tryd.prog 35 #[.agg x.cells.toArray] w (BytesE x w) := by
  have HB := Lib.hid (fun (W : World) (m : Mod [] (w.alloc (.cells x.cells.toArray 35)) W) => enBox hl (m.get0 (hp_new w (.cells x.cells.toArray 35) _ rfl)))
  have ln : (LoadO 35 (.pointer (some ⟨w.heap.size, 0, none⟩))).run Tryd.prog (w.alloc (.cells x.cells.toArray 35)) = _ := (HB.out _ (Mod.refl [] _)).ln
  have HCK := Lib.hid (check_any x (w.alloc (.cells x.cells.toArray 35)) hl)
  obtain ⟨cs, hcs⟩ : ∃ cs, cs = x.cells.toArray := ⟨_, rfl⟩
  rw [← hcs] at HB ln HCK ⊢
  have hck : x.chk = 63 := by unfold En.chk; rw [hc]; rfl
  rw [hck] at HCK
  have HC := Lib.hid hck
  have HM := Lib.hid ((Mod.refl [] w).alloc (.cells cs 35))
  clear hcs hc hck hl
  go_enter Tryd.func35, Tryd.ntmps35
  go_wp2_with fail
  refine HCK.out.mono ?_
  rintro e w2 ⟨rfl, m2⟩
  have HM2 := Lib.hid (HM.out.trans0 m2)
  clear m2 ln
  go_wp2_with fail
  go_ret2
  exact ⟨_, by rw [HC.out]; rfl, by rw [HC.out, if_neg (by decide)]; rfl, HM2.out⟩
set_option maxRecDepth 100000 in
theorem ebytes_call (x : En) (w : World) (hl : x.Ln) (hr : Rd V8 w x.body.p x.body.cap x.body.d) (hc : x.fine = true) (hk : x.kind = 2) : Calls Tryd.prog 35 #[.agg x.cells.toArray] w (BytesE x w) := by
  have HB := Lib.hid (fun (W : World) (m : Mod [] (w.alloc (.cells x.cells.toArray 35)) W) => enBox hl (m.get0 (hp_new w (.cells x.cells.toArray 35) _ rfl)))
  have ln : (LoadO 35 (.pointer (some ⟨w.heap.size, 0, none⟩))).run Tryd.prog (w.alloc (.cells x.cells.toArray 35)) = _ := (HB.out _ (Mod.refl [] _)).ln
  have HCK := Lib.hid (check_any x (w.alloc (.cells x.cells.toArray 35)) hl)
  obtain ⟨cs, hcs⟩ : ∃ cs, cs = x.cells.toArray := ⟨_, rfl⟩
  rw [← hcs] at HB ln HCK ⊢
  have hck : x.chk = 0 := by unfold En.chk; rw [hc]; rfl
  rw [hck] at HCK
  have HC := Lib.hid hck
  have HL := Lib.hid hl
  have HR := Lib.hid hr
  obtain ⟨ht, hrest⟩ := fine_call hc hk
  have HF := Lib.hid hrest
  have HTM := Lib.hid ht
  have d1 : (x.kind == 2) = true := by rw [hk]; rfl
  have hbl := bytes_len hl hc
  rw [bytes_call hk] at hbl
  have HBL := Lib.hid hbl
  have HEB := Lib.hid (bytes_call (x := x) hk)
  have cv := cv_byte x.kind
  obtain ⟨z, hz⟩ : ∃ z, z = byteOf x.kind := ⟨_, rfl⟩
  rw [← hz] at cv HEB HBL
  have HM := Lib.hid ((Mod.refl [] w).alloc (.cells cs 35))
  clear hcs hc hck hl hr hz ht hrest hk hbl
  obtain ⟨w1, hw1⟩ : ∃ w1, w1 = w.alloc (.cells cs 35) := ⟨_, rfl⟩
  rw [← hw1] at HB ln HCK HM
  have HW1 := Lib.hid (show w.heap.size ≤ w1.heap.size from HM.out.size)
  have c0 : w1.cell? ⟨w.heap.size, 0, none⟩ = some (.int .i64 x.kind) := (HB.out _ (Mod.refl [] _)).c0
  have HWW := Lib.hid hw1
  rw [HWW.out] at ln
  clear hw1
  go_enter Tryd.func35, Tryd.ntmps35
  go_wp2_with fail
  rw [← HWW.out]
  refine HCK.out.mono ?_
  rintro e w2 ⟨rfl, m2⟩
  have HM2 := Lib.hid m2
  clear m2 ln c0
  go_wp2_with fail
  refine (newW_any w1.heap.size w2 HM2.out.size).mono ?_
  rintro e w3 ⟨g, rfl, hg, hi, m3⟩
  have HW := Lib.hid (show Ws w1 w3 g [] from ⟨_, hi, HM2.out.trans0 m3⟩)
  clear hg hi m3
  have K := HB.out _ HW.out.md
  have c0 : w3.cell? ⟨w.heap.size, 0, none⟩ = some (.int .i64 x.kind) := K.c0
  clear K
  go_wp2_with fail
  refine (HW.out.byte z (by simp)).mono ?_
  rintro e w4 ⟨rfl, h4⟩
  have HW := Lib.hid h4
  clear h4
  clear cv
  try clear c0
  have K := HB.out _ HW.out.md
  have l1 : (LoadO 30 (.pointer (some ⟨w.heap.size, 1, none⟩))).run Tryd.prog w4 = .ok (.agg (x.snd.map V8).toArray) w4 := K.l1
  clear K
  go_wp2_with fail
  refine (HW.out.addr x.snd HL.out.s20 (by simp)).mono ?_
  rintro e w5 ⟨rfl, h5⟩
  have HW := Lib.hid h5
  clear h5
  have K := HB.out _ HW.out.md
  have c21 : w5.cell? ⟨w.heap.size, 21, none⟩ = some (.int .i64 x.time) := K.c21
  clear K
  go_wp2_with fail
  refine (HW.out.num x.time HTM.out.1 (by have := HTM.out.2; omega) (by simp [HL.out.s20])).mono ?_
  rintro e w6 ⟨rfl, h6⟩
  have HW := Lib.hid h6
  clear h6
  have K := HB.out _ HW.out.md
  have c0 : w6.cell? ⟨w.heap.size, 0, none⟩ = some (.int .i64 x.kind) := K.c0
  have c48 : w6.cell? ⟨w.heap.size, 48, none⟩ = some (.slice x.body.p x.body.d.length x.body.cap) := K.c48
  clear K
  have hf := form_length x.time.toNat
  have HFM := Lib.hid hf
  clear hf
  go_wp2_with fail
  refine (HW.out.bytes x.body.p x.body.cap _ x.body.d w HW1.out HR.out (HR.out.mod0 (HM.out.trans0 HW.out.md)) rfl (by have := HFM.out; have := HL.out.s20; have := HF.out; simp; omega)).mono ?_
  rintro e w7 ⟨rfl, h7⟩
  have HW := Lib.hid h7
  clear h7
  go_wp2_with fail
  obtain ⟨v, hi, hm⟩ := HW.out
  refine (done_yes _ g v _ w7 hi (by have := HBL.out; simp at this ⊢; omega) rfl).mono ?_
  rintro e w12 ⟨u, rfl, ho, m12⟩
  have HO := Lib.hid ho
  have HM12 := Lib.hid (HM.out.trans0 (HW.out.md.trans0 m12))
  have HSZ := Lib.hid (Nat.le_trans HW1.out HW.out.md.size)
  clear ho m12 hi hm
  go_wp2_with fail
  go_ret2
  refine ⟨u, by rw [HC.out]; rfl, ?_, HM12.out⟩
  rw [HC.out, if_pos rfl, HEB.out]
  simpa using HO.out.mono HSZ.out
set_option maxRecDepth 100000 in
theorem ebytes_dep (x : En) (w : World) (hl : x.Ln) (hr : Rd V8 w x.body.p x.body.cap x.body.d) (hc : x.fine = true) (hk : x.kind = 1) : Calls Tryd.prog 35 #[.agg x.cells.toArray] w (BytesE x w) := by
  have HB := Lib.hid (fun (W : World) (m : Mod [] (w.alloc (.cells x.cells.toArray 35)) W) => enBox hl (m.get0 (hp_new w (.cells x.cells.toArray 35) _ rfl)))
  have ln : (LoadO 35 (.pointer (some ⟨w.heap.size, 0, none⟩))).run Tryd.prog (w.alloc (.cells x.cells.toArray 35)) = _ := (HB.out _ (Mod.refl [] _)).ln
  have HCK := Lib.hid (check_any x (w.alloc (.cells x.cells.toArray 35)) hl)
  obtain ⟨cs, hcs⟩ : ∃ cs, cs = x.cells.toArray := ⟨_, rfl⟩
  rw [← hcs] at HB ln HCK ⊢
  have hck : x.chk = 0 := by unfold En.chk; rw [hc]; rfl
  rw [hck] at HCK
  have HC := Lib.hid hck
  have HL := Lib.hid hl
  have HR := Lib.hid hr
  obtain ⟨ht, hrest⟩ := fine_dep hc hk
  have HF := Lib.hid hrest
  have HTM := Lib.hid ht
  have d1 : (x.kind == 2) = false := by rw [hk]; rfl
  have hbl := bytes_len hl hc
  rw [bytes_dep hk] at hbl
  have HBL := Lib.hid hbl
  have HEB := Lib.hid (bytes_dep (x := x) hk)
  have cv := cv_byte x.kind
  obtain ⟨z, hz⟩ : ∃ z, z = byteOf x.kind := ⟨_, rfl⟩
  rw [← hz] at cv HEB HBL
  have HM := Lib.hid ((Mod.refl [] w).alloc (.cells cs 35))
  clear hcs hc hck hl hr hz ht hrest hk hbl
  obtain ⟨w1, hw1⟩ : ∃ w1, w1 = w.alloc (.cells cs 35) := ⟨_, rfl⟩
  rw [← hw1] at HB ln HCK HM
  have HW1 := Lib.hid (show w.heap.size ≤ w1.heap.size from HM.out.size)
  have c0 : w1.cell? ⟨w.heap.size, 0, none⟩ = some (.int .i64 x.kind) := (HB.out _ (Mod.refl [] _)).c0
  have HWW := Lib.hid hw1
  rw [HWW.out] at ln
  clear hw1
  go_enter Tryd.func35, Tryd.ntmps35
  go_wp2_with fail
  rw [← HWW.out]
  refine HCK.out.mono ?_
  rintro e w2 ⟨rfl, m2⟩
  have HM2 := Lib.hid m2
  clear m2 ln c0
  go_wp2_with fail
  refine (newW_any w1.heap.size w2 HM2.out.size).mono ?_
  rintro e w3 ⟨g, rfl, hg, hi, m3⟩
  have HW := Lib.hid (show Ws w1 w3 g [] from ⟨_, hi, HM2.out.trans0 m3⟩)
  clear hg hi m3
  have K := HB.out _ HW.out.md
  have c0 : w3.cell? ⟨w.heap.size, 0, none⟩ = some (.int .i64 x.kind) := K.c0
  clear K
  go_wp2_with fail
  refine (HW.out.byte z (by simp)).mono ?_
  rintro e w4 ⟨rfl, h4⟩
  have HW := Lib.hid h4
  clear h4
  clear cv
  try clear c0
  have K := HB.out _ HW.out.md
  have l1 : (LoadO 30 (.pointer (some ⟨w.heap.size, 1, none⟩))).run Tryd.prog w4 = .ok (.agg (x.snd.map V8).toArray) w4 := K.l1
  clear K
  go_wp2_with fail
  refine (HW.out.addr x.snd HL.out.s20 (by simp)).mono ?_
  rintro e w5 ⟨rfl, h5⟩
  have HW := Lib.hid h5
  clear h5
  have K := HB.out _ HW.out.md
  have c21 : w5.cell? ⟨w.heap.size, 21, none⟩ = some (.int .i64 x.time) := K.c21
  clear K
  go_wp2_with fail
  refine (HW.out.num x.time HTM.out.1 (by have := HTM.out.2; omega) (by simp [HL.out.s20])).mono ?_
  rintro e w6 ⟨rfl, h6⟩
  have HW := Lib.hid h6
  clear h6
  have K := HB.out _ HW.out.md
  have c0 : w6.cell? ⟨w.heap.size, 0, none⟩ = some (.int .i64 x.kind) := K.c0
  have c22 : w6.cell? ⟨w.heap.size, 22, none⟩ = some (.int .i64 x.tok) := K.c22
  clear K
  have hf := form_length x.time.toNat
  have HFM := Lib.hid hf
  clear hf
  go_wp2_with fail
  refine (HW.out.num x.tok HF.out.1 (by have := HF.out.2.1; omega) (by have := HFM.out; have := HL.out.s20; simp; omega)).mono ?_
  rintro e w7 ⟨rfl, h7⟩
  have HW := Lib.hid h7
  clear h7
  have K := HB.out _ HW.out.md
  have l23 : (LoadO 30 (.pointer (some ⟨w.heap.size, 23, none⟩))).run Tryd.prog w7 = .ok (.agg (x.to.map V8).toArray) w7 := K.l23
  clear K
  have HFM2 := Lib.hid (form_length x.tok.toNat)
  go_wp2_with fail
  refine (HW.out.addr x.to HL.out.t20 (by have := HFM.out; have := HFM2.out; have := HL.out.s20; simp; omega)).mono ?_
  rintro e w8 ⟨rfl, h8⟩
  have HW := Lib.hid h8
  clear h8
  have K := HB.out _ HW.out.md
  have l43 : (LoadO 33 (.pointer (some ⟨w.heap.size, 43, none⟩))).run Tryd.prog w8 = .ok (.agg (x.amt.map V64).toArray) w8 := K.l43
  clear K
  go_wp2_with fail
  refine (HW.out.wide x.amt HL.out.a4 (by have := HFM.out; have := HFM2.out; have := HL.out.s20; have := HL.out.t20; simp; omega)).mono ?_
  rintro e w9 ⟨rfl, h9⟩
  have HW := Lib.hid h9
  clear h9
  have K := HB.out _ HW.out.md
  have c47 : w9.cell? ⟨w.heap.size, 47, none⟩ = some (.int .i64 x.gas) := K.c47
  clear K
  have HFM3 := Lib.hid (short_length (be32 x.amt))
  rw [be32_length] at HFM3
  go_wp2_with fail
  refine (HW.out.num x.gas HF.out.2.2.1 (by have := HF.out.2.2.2; omega) (by have := HFM.out; have := HFM2.out; have := HFM3.out; have := HL.out.s20; have := HL.out.t20; simp; omega)).mono ?_
  rintro e w10 ⟨rfl, h10⟩
  have HW := Lib.hid h10
  clear h10
  go_wp2_with fail
  obtain ⟨v, hi, hm⟩ := HW.out
  refine (done_yes _ g v _ w10 hi (by have := HBL.out; simp at this ⊢; omega) rfl).mono ?_
  rintro e w12 ⟨u, rfl, ho, m12⟩
  have HO := Lib.hid ho
  have HM12 := Lib.hid (HM.out.trans0 (HW.out.md.trans0 m12))
  have HSZ := Lib.hid (Nat.le_trans HW1.out HW.out.md.size)
  clear ho m12 hi hm
  go_wp2_with fail
  go_ret2
  refine ⟨u, by rw [HC.out]; rfl, ?_, HM12.out⟩
  rw [HC.out, if_pos rfl, HEB.out]
  simpa using HO.out.mono HSZ.out
end Go.Proofs.YtmdgefiojapogaaDoor
namespace Go.Proofs.YtmdgefiojapogaaDoor
open Go.RowKit
attribute [local go_sem high] one8 st8 cm8 b_and8 b_and8r b_and8l b_or8 b_or8r b_or8l b_xor8 b_xor8r b_xor8l b_andNot8 b_andNot8r b_andNot8l b_add8 b_add8r b_add8l b_sub8 b_sub8r b_sub8l b_mul8 b_mul8r b_mul8l b_eql8 b_eql8r b_eql8l b_neq8 b_neq8r b_neq8l b_lss8 b_lss8r b_lss8l b_leq8 b_leq8r b_leq8l b_gtr8 b_gtr8r b_gtr8l b_geq8 b_geq8r b_geq8l b_quo8r b_rem8r b_shl8r b_shr8r b_shl8l b_shr8l u_xor8 g_eql8 g_neq8 g_eql8' g_neq8' one32 st32 cm32 b_and32 b_and32r b_and32l b_or32 b_or32r b_or32l b_xor32 b_xor32r b_xor32l b_andNot32 b_andNot32r b_andNot32l b_add32 b_add32r b_add32l b_sub32 b_sub32r b_sub32l b_mul32 b_mul32r b_mul32l b_eql32 b_eql32r b_eql32l b_neq32 b_neq32r b_neq32l b_lss32 b_lss32r b_lss32l b_leq32 b_leq32r b_leq32l b_gtr32 b_gtr32r b_gtr32l b_geq32 b_geq32r b_geq32l b_quo32r b_rem32r b_shl32r b_shr32r b_shl32l b_shr32l u_xor32 g_eql32 g_neq32 g_eql32' g_neq32' one64 st64 cm64 b_and64 b_and64r b_and64l b_or64 b_or64r b_or64l b_xor64 b_xor64r b_xor64l b_andNot64 b_andNot64r b_andNot64l b_add64 b_add64r b_add64l b_sub64 b_sub64r b_sub64l b_mul64 b_mul64r b_mul64l b_eql64 b_eql64r b_eql64l b_neq64 b_neq64r b_neq64l b_lss64 b_lss64r b_lss64l b_leq64 b_leq64r b_leq64l b_gtr64 b_gtr64r b_gtr64l b_geq64 b_geq64r b_geq64l b_quo64r b_rem64r b_shl64r b_shr64r b_shl64l b_shr64l u_xor64 g_eql64 g_neq64 g_eql64' g_neq64' c_u8_u8 c_u8_u32 c_u8_u64 c_i_u8 c_u32_u8 c_u32_u32 c_u32_u64 c_i_u32 c_u64_u8 c_u64_u32 c_u64_u64 c_i_u64 c_u8_i c_u32_i
attribute [local go_sem ↓] ce8 ce32 ce64
attribute [local go_sem ↓] sliced_slp loadOAd storeOAd loadOWd storeOWd loadOEn storeOEn
/-- A writer of the call's own that holds b. -/
def Vs (w0 w : World) (g : Nat) (b : Bs) : Prop := ∃ v, IsV w w0.heap.size g v ⟨b, 0⟩ ∧ Mod [] w0 w
namespace Vs
variable {w0 w : World} {g : Nat} {b : Bs}
theorem of {W : Wr} {b' : Bs} {v : Value} {e : Ending} {w' : World} (hi : IsV w w0.heap.size g v ⟨b, 0⟩) (hm : Mod [] w0 w) (hp : DwPost w0.heap.size g v W (.tuple #[]) w e w') (hW : W = ⟨b', 0⟩) : e = .returned (.tuple #[]) ∧ Vs w0 w' g b' := by
  subst hW
  obtain ⟨v', rfl, hi', m', _⟩ := hp
  exact ⟨rfl, v', hi', hm.trans m' (fun x hx => .inr (hi.foot_base x hx))⟩
theorem md (h : Vs w0 w g b) : Mod [] w0 w := by obtain ⟨_, _, m⟩ := h; exact m
theorem byte (h : Vs w0 w g b) (x : UInt8) (hl : b.length + 1 ≤ 4194304) : Calls Tryd.prog 77 #[.pointer (some ⟨g, 0, none⟩), V8 x] w fun e w' => e = .returned (.tuple #[]) ∧ Vs w0 w' g (b ++ [x]) := by
  obtain ⟨v, hi, hm⟩ := h
  exact (dbyte_any _ g v _ w hi (by simp only; omega) x).mono fun e w' hp => of hi hm hp (lay_fit (by simpa using hl))
theorem addr (h : Vs w0 w g b) (d : Bs) (hd : d.length = 20) (hl : b.length + 20 ≤ 4194304) : Calls Tryd.prog 78 #[.pointer (some ⟨g, 0, none⟩), .agg (d.map V8).toArray] w fun e w' => e = .returned (.tuple #[]) ∧ Vs w0 w' g (b ++ d) := by
  obtain ⟨v, hi, hm⟩ := h
  exact (daddressW_any _ g v _ w hi (by simp only; omega) d hd).mono fun e w' hp => of hi hm hp (lay_fit (by omega))
theorem num (h : Vs w0 w g b) (n : Int) (h0 : 0 ≤ n) (h1 : n ≤ 9223372036854775807) (hl : b.length + 9 ≤ 4194304) : Calls Tryd.prog 79 #[.pointer (some ⟨g, 0, none⟩), .int .i64 n] w fun e w' => e = .returned (.tuple #[]) ∧ Vs w0 w' g (b ++ form n.toNat) := by
  obtain ⟨v, hi, hm⟩ := h
  exact (dnumberW_any _ g v _ w hi (by simp only; omega) n h1).mono fun e w' hp => of hi hm hp (num_fit h0 hl)
theorem wide (h : Vs w0 w g b) (a : List UInt64) (ha : a.length = 4) (hl : b.length + 33 ≤ 4194304) : Calls Tryd.prog 80 #[.pointer (some ⟨g, 0, none⟩), .agg (a.map V64).toArray] w fun e w' => e = .returned (.tuple #[]) ∧ Vs w0 w' g (b ++ short (be32 a)) := by
  obtain ⟨v, hi, hm⟩ := h
  have h1 := short_length (be32 a)
  rw [be32_length] at h1
  exact (dwideW_any _ g v _ w hi (by simp only; omega) a ha).mono fun e w' hp => of hi hm hp (lay_fit (by omega))
theorem bytes (h : Vs w0 w g b) (p : Option Addr) (cap n : Nat) (l : Bs) (a : World) (ha : a.heap.size ≤ w0.heap.size) (hr : Rd V8 a p cap l) (hr' : Rd V8 w p cap l) (hn : n = l.length) (hl : b.length + 9 + l.length ≤ 4194304) : Calls Tryd.prog 81 #[.pointer (some ⟨g, 0, none⟩), .slice p n cap] w fun e w' => e = .returned (.tuple #[]) ∧ Vs w0 w' g (b ++ (form l.length ++ l)) := by
  subst hn
  obtain ⟨v, hi, hm⟩ := h
  have h1 := form_length l.length
  exact (dbytesW_any _ g v _ w hi (by simp only; omega) p cap l hr' (by omega)).mono fun e w' hp => of hi hm hp (lay_fit (by simp; omega))
end Vs
set_option maxRecDepth 100000 in
theorem rebytes_no (x : En) (w : World) (hl : x.Ln) (hc : x.fine = false) : Calls Tryd.prog 63 #[.agg x.cells.toArray] w (BytesE x w) := by
  have HB := Lib.hid (fun (W : World) (m : Mod [] (w.alloc (.cells x.cells.toArray 35)) W) => enBox hl (m.get0 (hp_new w (.cells x.cells.toArray 35) _ rfl)))
  have ln : (LoadO 35 (.pointer (some ⟨w.heap.size, 0, none⟩))).run Tryd.prog (w.alloc (.cells x.cells.toArray 35)) = _ := (HB.out _ (Mod.refl [] _)).ln
  have HCK := Lib.hid (rcheck_any x (w.alloc (.cells x.cells.toArray 35)) hl)
  obtain ⟨cs, hcs⟩ : ∃ cs, cs = x.cells.toArray := ⟨_, rfl⟩
  rw [← hcs] at HB ln HCK ⊢
  have hck : x.chk = 63 := by unfold En.chk; rw [hc]; rfl
  rw [hck] at HCK
  have HC := Lib.hid hck
  have HM := Lib.hid ((Mod.refl [] w).alloc (.cells cs 35))
  clear hcs hc hck hl
  go_enter Tryd.func63, Tryd.ntmps63
  go_wp2_with fail
  refine HCK.out.mono ?_
  rintro e w2 ⟨rfl, m2⟩
  have HM2 := Lib.hid (HM.out.trans0 m2)
  clear m2 ln
  go_wp2_with fail
  go_ret2
  exact ⟨_, by rw [HC.out]; rfl, by rw [HC.out, if_neg (by decide)]; rfl, HM2.out⟩
set_option maxRecDepth 100000 in
theorem rebytes_call (x : En) (w : World) (hl : x.Ln) (hr : Rd V8 w x.body.p x.body.cap x.body.d) (hc : x.fine = true) (hk : x.kind = 2) : Calls Tryd.prog 63 #[.agg x.cells.toArray] w (BytesE x w) := by
  have HB := Lib.hid (fun (W : World) (m : Mod [] (w.alloc (.cells x.cells.toArray 35)) W) => enBox hl (m.get0 (hp_new w (.cells x.cells.toArray 35) _ rfl)))
  have ln : (LoadO 35 (.pointer (some ⟨w.heap.size, 0, none⟩))).run Tryd.prog (w.alloc (.cells x.cells.toArray 35)) = _ := (HB.out _ (Mod.refl [] _)).ln
  have HCK := Lib.hid (rcheck_any x (w.alloc (.cells x.cells.toArray 35)) hl)
  obtain ⟨cs, hcs⟩ : ∃ cs, cs = x.cells.toArray := ⟨_, rfl⟩
  rw [← hcs] at HB ln HCK ⊢
  have hck : x.chk = 0 := by unfold En.chk; rw [hc]; rfl
  rw [hck] at HCK
  have HC := Lib.hid hck
  have HL := Lib.hid hl
  have HR := Lib.hid hr
  obtain ⟨ht, hrest⟩ := fine_call hc hk
  have HF := Lib.hid hrest
  have HTM := Lib.hid ht
  have d1 : (x.kind == 1) = false := by rw [hk]; rfl
  have d2 : (x.kind == 2) = true := by rw [hk]; rfl
  have hbl := bytes_len hl hc
  rw [bytes_call hk] at hbl
  have HBL := Lib.hid hbl
  have HEB := Lib.hid (bytes_call (x := x) hk)
  have cv := cv_byte x.kind
  obtain ⟨z, hz⟩ : ∃ z, z = byteOf x.kind := ⟨_, rfl⟩
  rw [← hz] at cv HEB HBL
  have HM := Lib.hid ((Mod.refl [] w).alloc (.cells cs 35))
  clear hcs hc hck hl hr hz ht hrest hk hbl
  obtain ⟨w1, hw1⟩ : ∃ w1, w1 = w.alloc (.cells cs 35) := ⟨_, rfl⟩
  rw [← hw1] at HB ln HCK HM
  have HW1 := Lib.hid (show w.heap.size ≤ w1.heap.size from HM.out.size)
  have c0 : w1.cell? ⟨w.heap.size, 0, none⟩ = some (.int .i64 x.kind) := (HB.out _ (Mod.refl [] _)).c0
  have HWW := Lib.hid hw1
  rw [HWW.out] at ln
  clear hw1
  go_enter Tryd.func63, Tryd.ntmps63
  go_wp2_with fail
  rw [← HWW.out]
  refine HCK.out.mono ?_
  rintro e w2 ⟨rfl, m2⟩
  have HM2 := Lib.hid m2
  clear m2 ln c0
  have HW0 := Lib.hid (show Vs w1 (w2.alloc (.cells #[.slice none 0 0, .int .i64 0] 136)) w2.heap.size [] from ⟨_, ⟨HM2.out.size, hp_new _ _ _ rfl, Own.nil _ _⟩, HM2.out.alloc _⟩)
  obtain ⟨w3, hw3⟩ : ∃ w3, w3 = w2.alloc (.cells #[.slice none 0 0, .int .i64 0] 136) := ⟨_, rfl⟩
  obtain ⟨g, hg⟩ : ∃ g, g = w2.heap.size := ⟨_, rfl⟩
  rw [← hw3, ← hg] at HW0
  have K := HB.out _ HW0.out.md
  have c0 : (w2.alloc (.cells #[.slice none 0 0, .int .i64 0] 136)).cell? ⟨w.heap.size, 0, none⟩ = some (.int .i64 x.kind) := by rw [← hw3]; exact K.c0
  clear K
  have HW3 := Lib.hid hw3
  have HG := Lib.hid hg
  clear hw3 hg
  go_wp2_with fail
  rw [← HW3.out, ← HG.out]
  have HW := Lib.hid HW0.out
  refine (HW.out.byte z (by simp)).mono ?_
  rintro e w4 ⟨rfl, h4⟩
  have HW := Lib.hid h4
  clear h4
  clear cv
  try clear c0
  have K := HB.out _ HW.out.md
  have l1 : (LoadO 30 (.pointer (some ⟨w.heap.size, 1, none⟩))).run Tryd.prog w4 = .ok (.agg (x.snd.map V8).toArray) w4 := K.l1
  clear K
  go_wp2_with fail
  refine (HW.out.addr x.snd HL.out.s20 (by simp)).mono ?_
  rintro e w5 ⟨rfl, h5⟩
  have HW := Lib.hid h5
  clear h5
  have K := HB.out _ HW.out.md
  have c21 : w5.cell? ⟨w.heap.size, 21, none⟩ = some (.int .i64 x.time) := K.c21
  clear K
  go_wp2_with fail
  refine (HW.out.num x.time HTM.out.1 (by have := HTM.out.2; omega) (by simp [HL.out.s20])).mono ?_
  rintro e w6 ⟨rfl, h6⟩
  have HW := Lib.hid h6
  clear h6
  have K := HB.out _ HW.out.md
  have c0 : w6.cell? ⟨w.heap.size, 0, none⟩ = some (.int .i64 x.kind) := K.c0
  have c48 : w6.cell? ⟨w.heap.size, 48, none⟩ = some (.slice x.body.p x.body.d.length x.body.cap) := K.c48
  clear K
  have hf := form_length x.time.toNat
  have HFM := Lib.hid hf
  clear hf
  go_wp2_with fail
  refine (HW.out.bytes x.body.p x.body.cap _ x.body.d w HW1.out HR.out (HR.out.mod0 (HM.out.trans0 HW.out.md)) rfl (by have := HFM.out; have := HL.out.s20; have := HF.out; simp; omega)).mono ?_
  rintro e w7 ⟨rfl, h7⟩
  have HW := Lib.hid h7
  clear h7
  obtain ⟨v, hi, hm⟩ := HW.out
  obtain ⟨q, c, hv, _, _⟩ := hi.own.rd
  have HO := Lib.hid hi.own
  have c0 := hi.c0
  rw [hv] at c0 HO
  obtain ⟨u, hu⟩ : ∃ u, u = ([] ++ [z] ++ x.snd ++ form x.time.toNat ++ (form x.body.d.length ++ x.body.d) : Bs).length := ⟨_, rfl⟩
  simp only [← hu] at c0 HO
  have HM12 := Lib.hid (HM.out.trans0 HW.out.md)
  clear hi hm hv hu
  go_wp2_with fail
  go_ret2
  refine ⟨_, by rw [HC.out]; rfl, ?_, HM12.out⟩
  rw [HC.out, if_pos rfl, HEB.out]
  simpa using HO.out.mono HW1.out
set_option maxRecDepth 100000 in
theorem rebytes_dep (x : En) (w : World) (hl : x.Ln) (hr : Rd V8 w x.body.p x.body.cap x.body.d) (hc : x.fine = true) (hk : x.kind = 1) : Calls Tryd.prog 63 #[.agg x.cells.toArray] w (BytesE x w) := by
  have HB := Lib.hid (fun (W : World) (m : Mod [] (w.alloc (.cells x.cells.toArray 35)) W) => enBox hl (m.get0 (hp_new w (.cells x.cells.toArray 35) _ rfl)))
  have ln : (LoadO 35 (.pointer (some ⟨w.heap.size, 0, none⟩))).run Tryd.prog (w.alloc (.cells x.cells.toArray 35)) = _ := (HB.out _ (Mod.refl [] _)).ln
  have HCK := Lib.hid (rcheck_any x (w.alloc (.cells x.cells.toArray 35)) hl)
  obtain ⟨cs, hcs⟩ : ∃ cs, cs = x.cells.toArray := ⟨_, rfl⟩
  rw [← hcs] at HB ln HCK ⊢
  have hck : x.chk = 0 := by unfold En.chk; rw [hc]; rfl
  rw [hck] at HCK
  have HC := Lib.hid hck
  have HL := Lib.hid hl
  have HR := Lib.hid hr
  obtain ⟨ht, hrest⟩ := fine_dep hc hk
  have HF := Lib.hid hrest
  have HTM := Lib.hid ht
  have d1 : (x.kind == 1) = true := by rw [hk]; rfl
  have d2 : (x.kind == 2) = false := by rw [hk]; rfl
  have hbl := bytes_len hl hc
  rw [bytes_dep hk] at hbl
  have HBL := Lib.hid hbl
  have HEB := Lib.hid (bytes_dep (x := x) hk)
  have cv := cv_byte x.kind
  obtain ⟨z, hz⟩ : ∃ z, z = byteOf x.kind := ⟨_, rfl⟩
  rw [← hz] at cv HEB HBL
  have HM := Lib.hid ((Mod.refl [] w).alloc (.cells cs 35))
  clear hcs hc hck hl hr hz ht hrest hk hbl
  obtain ⟨w1, hw1⟩ : ∃ w1, w1 = w.alloc (.cells cs 35) := ⟨_, rfl⟩
  rw [← hw1] at HB ln HCK HM
  have HW1 := Lib.hid (show w.heap.size ≤ w1.heap.size from HM.out.size)
  have c0 : w1.cell? ⟨w.heap.size, 0, none⟩ = some (.int .i64 x.kind) := (HB.out _ (Mod.refl [] _)).c0
  have HWW := Lib.hid hw1
  rw [HWW.out] at ln
  clear hw1
  go_enter Tryd.func63, Tryd.ntmps63
  go_wp2_with fail
  rw [← HWW.out]
  refine HCK.out.mono ?_
  rintro e w2 ⟨rfl, m2⟩
  have HM2 := Lib.hid m2
  clear m2 ln c0
  have HW0 := Lib.hid (show Vs w1 (w2.alloc (.cells #[.slice none 0 0, .int .i64 0] 136)) w2.heap.size [] from ⟨_, ⟨HM2.out.size, hp_new _ _ _ rfl, Own.nil _ _⟩, HM2.out.alloc _⟩)
  obtain ⟨w3, hw3⟩ : ∃ w3, w3 = w2.alloc (.cells #[.slice none 0 0, .int .i64 0] 136) := ⟨_, rfl⟩
  obtain ⟨g, hg⟩ : ∃ g, g = w2.heap.size := ⟨_, rfl⟩
  rw [← hw3, ← hg] at HW0
  have K := HB.out _ HW0.out.md
  have c0 : (w2.alloc (.cells #[.slice none 0 0, .int .i64 0] 136)).cell? ⟨w.heap.size, 0, none⟩ = some (.int .i64 x.kind) := by rw [← hw3]; exact K.c0
  clear K
  have HW3 := Lib.hid hw3
  have HG := Lib.hid hg
  clear hw3 hg
  go_wp2_with fail
  rw [← HW3.out, ← HG.out]
  have HW := Lib.hid HW0.out
  refine (HW.out.byte z (by simp)).mono ?_
  rintro e w4 ⟨rfl, h4⟩
  have HW := Lib.hid h4
  clear h4
  clear cv
  try clear c0
  have K := HB.out _ HW.out.md
  have l1 : (LoadO 30 (.pointer (some ⟨w.heap.size, 1, none⟩))).run Tryd.prog w4 = .ok (.agg (x.snd.map V8).toArray) w4 := K.l1
  clear K
  go_wp2_with fail
  refine (HW.out.addr x.snd HL.out.s20 (by simp)).mono ?_
  rintro e w5 ⟨rfl, h5⟩
  have HW := Lib.hid h5
  clear h5
  have K := HB.out _ HW.out.md
  have c21 : w5.cell? ⟨w.heap.size, 21, none⟩ = some (.int .i64 x.time) := K.c21
  clear K
  go_wp2_with fail
  refine (HW.out.num x.time HTM.out.1 (by have := HTM.out.2; omega) (by simp [HL.out.s20])).mono ?_
  rintro e w6 ⟨rfl, h6⟩
  have HW := Lib.hid h6
  clear h6
  have K := HB.out _ HW.out.md
  have c0 : w6.cell? ⟨w.heap.size, 0, none⟩ = some (.int .i64 x.kind) := K.c0
  have c22 : w6.cell? ⟨w.heap.size, 22, none⟩ = some (.int .i64 x.tok) := K.c22
  clear K
  have hf := form_length x.time.toNat
  have HFM := Lib.hid hf
  clear hf
  go_wp2_with fail
  refine (HW.out.num x.tok HF.out.1 (by have := HF.out.2.1; omega) (by have := HFM.out; have := HL.out.s20; simp; omega)).mono ?_
  rintro e w7 ⟨rfl, h7⟩
  have HW := Lib.hid h7
  clear h7
  have K := HB.out _ HW.out.md
  have l23 : (LoadO 30 (.pointer (some ⟨w.heap.size, 23, none⟩))).run Tryd.prog w7 = .ok (.agg (x.to.map V8).toArray) w7 := K.l23
  clear K
  have HFM2 := Lib.hid (form_length x.tok.toNat)
  go_wp2_with fail
  refine (HW.out.addr x.to HL.out.t20 (by have := HFM.out; have := HFM2.out; have := HL.out.s20; simp; omega)).mono ?_
  rintro e w8 ⟨rfl, h8⟩
  have HW := Lib.hid h8
  clear h8
  have K := HB.out _ HW.out.md
  have l43 : (LoadO 33 (.pointer (some ⟨w.heap.size, 43, none⟩))).run Tryd.prog w8 = .ok (.agg (x.amt.map V64).toArray) w8 := K.l43
  clear K
  go_wp2_with fail
  refine (HW.out.wide x.amt HL.out.a4 (by have := HFM.out; have := HFM2.out; have := HL.out.s20; have := HL.out.t20; simp; omega)).mono ?_
  rintro e w9 ⟨rfl, h9⟩
  have HW := Lib.hid h9
  clear h9
  have K := HB.out _ HW.out.md
  have c47 : w9.cell? ⟨w.heap.size, 47, none⟩ = some (.int .i64 x.gas) := K.c47
  clear K
  have HFM3 := Lib.hid (short_length (be32 x.amt))
  rw [be32_length] at HFM3
  go_wp2_with fail
  refine (HW.out.num x.gas HF.out.2.2.1 (by have := HF.out.2.2.2; omega) (by have := HFM.out; have := HFM2.out; have := HFM3.out; have := HL.out.s20; have := HL.out.t20; simp; omega)).mono ?_
  rintro e w10 ⟨rfl, h10⟩
  have HW := Lib.hid h10
  clear h10
  obtain ⟨v, hi, hm⟩ := HW.out
  obtain ⟨q, c, hv, _, _⟩ := hi.own.rd
  have HO := Lib.hid hi.own
  have c0 := hi.c0
  rw [hv] at c0 HO
  obtain ⟨u, hu⟩ : ∃ u, u = ([] ++ [z] ++ x.snd ++ form x.time.toNat ++ form x.tok.toNat ++ x.to ++ short (be32 x.amt) ++ form x.gas.toNat : Bs).length := ⟨_, rfl⟩
  simp only [← hu] at c0 HO
  have HM12 := Lib.hid (HM.out.trans0 HW.out.md)
  clear hi hm hv hu
  go_wp2_with fail
  go_ret2
  refine ⟨_, by rw [HC.out]; rfl, ?_, HM12.out⟩
  rw [HC.out, if_pos rfl, HEB.out]
  simpa using HO.out.mono HW1.out
end Go.Proofs.YtmdgefiojapogaaDoor
