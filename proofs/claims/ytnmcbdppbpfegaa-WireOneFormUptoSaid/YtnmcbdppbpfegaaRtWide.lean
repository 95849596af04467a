/- Wide of a reader, whatever it answers. Condition: at most 2^22 bytes. -/
import Derived.Test.YtnmcbdppbpfegaaRtBytes
import Derived.StillTailTactics
namespace Go.Proofs.Ytnmcbdppbpfegaa
open Go.RowKit
attribute [local go_sem high] one8 st8 cm8 b_and8 b_and8r b_and8l b_or8 b_or8r b_or8l b_xor8 b_xor8r b_xor8l b_andNot8 b_andNot8r b_andNot8l b_add8 b_add8r b_add8l b_sub8 b_sub8r b_sub8l b_mul8 b_mul8r b_mul8l b_eql8 b_eql8r b_eql8l b_neq8 b_neq8r b_neq8l b_lss8 b_lss8r b_lss8l b_leq8 b_leq8r b_leq8l b_gtr8 b_gtr8r b_gtr8l b_geq8 b_geq8r b_geq8l b_quo8r b_rem8r b_shl8r b_shr8r b_shl8l b_shr8l u_xor8 g_eql8 g_neq8 g_eql8' g_neq8' one32 st32 cm32 b_and32 b_and32r b_and32l b_or32 b_or32r b_or32l b_xor32 b_xor32r b_xor32l b_andNot32 b_andNot32r b_andNot32l b_add32 b_add32r b_add32l b_sub32 b_sub32r b_sub32l b_mul32 b_mul32r b_mul32l b_eql32 b_eql32r b_eql32l b_neq32 b_neq32r b_neq32l b_lss32 b_lss32r b_lss32l b_leq32 b_leq32r b_leq32l b_gtr32 b_gtr32r b_gtr32l b_geq32 b_geq32r b_geq32l b_quo32r b_rem32r b_shl32r b_shr32r b_shl32l b_shr32l u_xor32 g_eql32 g_neq32 g_eql32' g_neq32' one64 st64 cm64 b_and64 b_and64r b_and64l b_or64 b_or64r b_or64l b_xor64 b_xor64r b_xor64l b_andNot64 b_andNot64r b_andNot64l b_add64 b_add64r b_add64l b_sub64 b_sub64r b_sub64l b_mul64 b_mul64r b_mul64l b_eql64 b_eql64r b_eql64l b_neq64 b_neq64r b_neq64l b_lss64 b_lss64r b_lss64l b_leq64 b_leq64r b_leq64l b_gtr64 b_gtr64r b_gtr64l b_geq64 b_geq64r b_geq64l b_quo64r b_rem64r b_shl64r b_shr64r b_shl64l b_shr64l u_xor64 g_eql64 g_neq64 g_eql64' g_neq64' c_u8_u8 c_u8_u32 c_u8_u64 c_i_u8 c_u32_u8 c_u32_u32 c_u32_u64 c_i_u32 c_u64_u8 c_u64_u32 c_u64_u64 c_i_u64 c_u8_i c_u32_i
attribute [local go_sem ↓] ce8 ce32 ce64
attribute [local go_sem ↓] sliced_slp loadOWd storeOWd
/-- A byte laid at its place, counted from the lowest. -/
def wideStep (a : List UInt64) (k : Nat) (c : UInt8) : List UInt64 := a.set (k / 8) (a[k / 8]?.getD 0 ||| (c.toUInt64 <<< (8 * UInt64.ofNat (k % 8))))
def wideTo (h : List UInt8) : Nat → List UInt64
  | 0 => [0, 0, 0, 0]
  | i + 1 => wideStep (wideTo h i) (h.length - 1 - i) (h[i]?.getD 0)
theorem wideTo_len (h : List UInt8) : ∀ i, (wideTo h i).length = 4
  | 0 => rfl
  | i + 1 => by simp [wideTo, wideStep, wideTo_len h i]
def wideOf (h : List UInt8) : List UInt64 := wideTo h h.length
def wideP (l : List UInt8) : Except Int (List UInt64 × Nat) := match highP 32 l with
  | .error e => .error e
  | .ok h => .ok (wideOf h, 1 + h.length)
theorem callWide1 (xs : Array Value) (w : World) : (callFunc 102 xs).run Try.prog w = .ok (.enter 102 xs) w := by kernel_rfl
set_option maxRecDepth 100000 in
theorem wide1_yes (B g br bn : Nat) (v : Value) (R : Rr) (w : World) (h : IsR w B g v R) (hh : List UInt8) (hp : highP 32 (R.b.drop R.at_) = .ok hh) (hb : w.cell? ⟨br, 0, none⟩ = some (.pointer (some ⟨g, 0, none⟩))) (hn : w.heap[bn]? = some (.cells (([0, 0, 0, 0] : List UInt64).map V64).toArray 46 (0, 0))) (hne : bn ≠ g) (hv : v.ownBlock ≠ some bn) :
    Calls Try.prog 102 #[.pointer (some ⟨br, 0, none⟩), .pointer (some ⟨bn, 0, none⟩)] w fun e w' => e = .returned (.tuple #[]) ∧ IsR w' B g v { R with at_ := R.at_ + (1 + hh.length) } ∧ w'.heap[bn]? = some (.cells ((wideOf hh).map V64).toArray 46 (0, 0)) ∧ Mod [g, bn] w w' := by
  obtain ⟨hl32, _, _⟩ := highP_ok hp
  have HN := Lib.hid (high_yes B g v R w h 32 32 rfl hh hp)
  have HB := Lib.hid hn
  have HV := Lib.hid hv
  clear h hp hn hv
  go_enter Try.func102, Try.ntmps102
  go_wp2_with fail
  refine HN.out.mono ?_
  rintro e w1 ⟨q, c, rfl, hrd, hqo, hi, hm⟩
  have HI := Lib.hid hi
  have HM := Lib.hid hm
  have HRD := Lib.hid hrd
  have HB1 := Lib.hid (hm.get HB.out (by simpa using hne))
  have HQ := Lib.hid hqo
  clear hi hm hrd hqo hb HN
  go_wp2_with fail
  go_loopw [10] (fun iv wr => ∃ i : Nat, i ≤ hh.length ∧ iv = .int .i64 i ∧ wr.heap[bn]? = some (.cells ((wideTo hh i).map V64).toArray 46 (0, 0)) ∧ Mod [bn] w1 wr) (fun iv _ => hh.length - (intOf iv).toNat)
  case atStart => exact ⟨0, by omega, rfl, HB1.out, Mod.refl _ _⟩
  case round =>
    obtain ⟨i, hi, rfl, hbw, hm⟩ := hrel
    have HM2 := Lib.hid hm
    have HBW := Lib.hid hbw
    by_cases hlt : i < hh.length
    · obtain ⟨x, hx⟩ : ∃ x, hh[i]? = some x := ⟨hh[i], List.getElem?_eq_getElem hlt⟩
      obtain ⟨bq, oq, rfl, hcx0⟩ := HRD.out.cell i x hx
      have hqb : bq ≠ bn := by
        rintro rfl
        exact HV.out (HQ.out _ rfl)
      have hcx : wr.cell? ⟨bq, oq + i, none⟩ = some (V8 x) := (World.cell?_of_block (w := w1) (hm.block _ (block_lt_of_cell hcx0) (by simpa using hqb))).trans hcx0
      obtain ⟨k, hk⟩ : ∃ k, k = hh.length - 1 - i := ⟨_, rfl⟩
      have hki : (hh.length : Int) - 1 - (i : Int) = (k : Int) := by omega
      have hk32 : k < 32 := by omega
      obtain ⟨kd, hkd⟩ : ∃ kd, kd = k / 8 := ⟨_, rfl⟩
      obtain ⟨km, hkm⟩ : ∃ km, km = k % 8 := ⟨_, rfl⟩
      have hk4 : kd < 4 := by omega
      have hk7 : km < 8 := by omega
      obtain ⟨y, hy⟩ : ∃ y, (wideTo hh i)[kd]? = some y := ⟨_, List.getElem?_eq_getElem (by rw [wideTo_len]; exact hk4)⟩
      have hcy : wr.cell? ⟨bn, kd, none⟩ = some (V64 y) := by rw [cell_blk hbw, List.getElem?_toArray, List.getElem?_map, hy]; rfl
      have hfy := frozen_blk hbw kd
      have hq8 : (k : Int) / 8 = (kd : Int) := by omega
      have hr8 : (k : Int).tmod 8 = (km : Int) := by rw [Int.tmod_eq_emod_of_nonneg (by omega)]; omega
      have hwd : IntKind.i64.wrap (kd : Int) = (kd : Int) := wrI _ (by omega) (by omega)
      have hwm : IntKind.i64.wrap (km : Int) = (km : Int) := wrI _ (by omega) (by omega)
      have hw8 : IntKind.i64.wrap (8 * (km : Int)) = 8 * (km : Int) := wrI _ (by omega) (by omega)
      have k80 : (0 : Int) ≤ (kd : Int) := by omega
      have k81 : (kd : Int) < 4 := by omega
      have k82 : (0 : Int) ≤ 8 * (km : Int) := by omega
      have k83 : 8 * (km : Int) < 64 := by omega
      have HKD := Lib.hid hkd
      have HKM := Lib.hid hkm
      have HX := Lib.hid hx
      have HY := Lib.hid hy
      have HKK := Lib.hid hk
      clear hx hy hk hm hbw hcx0 hkd hkm
      go_wp2_with fail
      go_still_tail 12, (by kernel_rfl)
      change wpList _ _ _ _ _ wr.drew
      go_wp2_with fail
      refine ⟨⟨i + 1, by omega, by go_num, ?_, (HM2.out.setCell (p := ⟨bn, kd, none⟩) (.inl (by simp)) _).drew⟩, by simp [intOf]; omega⟩
      have e : wideTo hh (i + 1) = (wideTo hh i).set kd (y ||| x.toUInt64 <<< (8 * UInt64.ofNat km)) := by
        show wideStep (wideTo hh i) (hh.length - 1 - i) (hh[i]?.getD 0) = _
        rw [HX.out, ← HKK.out]
        unfold wideStep
        rw [← HKD.out, ← HKM.out, HY.out]
        rfl
      rw [e]
      show (wr.setCell ⟨bn, kd, none⟩ _).heap[bn]? = _
      rw [hp_sc HBW.out]
      simp [List.map_set]
    · have hnl : ¬ (i < hh.length) := hlt
      have hii : i = hh.length := by omega
      clear hm hbw
      go_wp2_with fail
      go_end0
      refine ⟨rfl, HI.out.mod HM2.out (by simpa using hne.symm) (fun x hx => ?_), by rw [HBW.out, hii]; rfl, (HM.out.mono (S' := [g, bn]) (fun x hx => .inl (by simp at hx; simp [hx]))).trans HM2.out (fun x hx => .inl (by simp at hx; simp [hx]))⟩
      rw [List.mem_singleton] at hx
      subst hx
      exact HV.out
theorem wideP_len {l : List UInt8} {x : List UInt64} {c : Nat} (h : wideP l = .ok (x, c)) : x.length = 4 := by
  unfold wideP at h
  split at h
  · cases h
  · injection h with h; injection h with h1 h2; subst h1; exact wideTo_len _ _
theorem wide1_yes' (B g br bn : Nat) (v : Value) (R : Rr) (w : World) (h : IsR w B g v R) (x : List UInt64) (c : Nat) (hp : wideP (R.b.drop R.at_) = .ok (x, c)) (hb : w.cell? ⟨br, 0, none⟩ = some (.pointer (some ⟨g, 0, none⟩))) (hn : w.heap[bn]? = some (.cells (([0, 0, 0, 0] : List UInt64).map V64).toArray 46 (0, 0))) (hne : bn ≠ g) (hv : v.ownBlock ≠ some bn) :
    Calls Try.prog 102 #[.pointer (some ⟨br, 0, none⟩), .pointer (some ⟨bn, 0, none⟩)] w fun e w' => e = .returned (.tuple #[]) ∧ IsR w' B g v { R with at_ := R.at_ + c } ∧ w'.heap[bn]? = some (.cells (x.map V64).toArray 46 (0, 0)) ∧ Mod [g, bn] w w' := by
  unfold wideP at hp
  split at hp
  · cases hp
  · rename_i hh hp2
    injection hp with hp
    injection hp with h1 h2
    subst h1 h2
    exact wide1_yes B g br bn v R w h hh hp2 hb hn hne hv
set_option maxRecDepth 100000 in
theorem wide1_no (B g br bn : Nat) (v : Value) (R : Rr) (w : World) (h : IsR w B g v R) (er : Int) (hp : wideP (R.b.drop R.at_) = .error er) (hb : w.cell? ⟨br, 0, none⟩ = some (.pointer (some ⟨g, 0, none⟩))) :
    Calls Try.prog 102 #[.pointer (some ⟨br, 0, none⟩), .pointer (some ⟨bn, 0, none⟩)] w (GaveUp B g v R er w) := by
  unfold wideP at hp
  split at hp
  case h_2 => cases hp
  rename_i er2 hp2
  injection hp with hp
  subst hp
  have HN := Lib.hid (high_no B g v R w h 32 32 rfl er2 hp2)
  clear h hp2
  go_enter Try.func102, Try.ntmps102
  go_wp2_with fail
  refine HN.out.mono ?_
  rintro e w1 ⟨rfl, hi, hm⟩
  exact ⟨rfl, rfl, hi, hm⟩
set_option maxRecDepth 100000 in
theorem rWide_any (B g : Nat) (v : Value) (R : Rr) (w : World) (h : IsR w B g v R) :
    Calls Try.prog 71 #[.pointer (some ⟨g, 0, none⟩)] w (RrPost B g v (R.tk [0, 0, 0, 0] wideP).1 (.agg ((R.tk [0, 0, 0, 0] wideP).2.map V64).toArray) w) := by
  have hmf : ∀ (fn : Fn) (first cap : Array Value) (w : World), (Instr.makeFunc fn first cap).run Try.prog w = .ok (.func fn first cap) w := fun _ _ _ _ => rfl
  unfold RrPost Rr.tk
  have H := Lib.hid h
  have hgl := h.lt
  obtain ⟨W2, hW2⟩ : ∃ W, W = (w.alloc (.cells #[.pointer (some ⟨g, 0, none⟩)] 23)).alloc (.cells (([0, 0, 0, 0] : List UInt64).map V64).toArray 46) := ⟨_, rfl⟩
  have M2 : Mod [] w W2 := by rw [hW2]; exact ((Mod.refl [] w).alloc _).alloc _
  have hbr : W2.heap[w.heap.size]? = some (.cells #[.pointer (some ⟨g, 0, none⟩)] 23 (0, 0)) := by rw [hW2]; exact hp_old (hp_new w _ _ rfl)
  have hbn : W2.heap[w.heap.size + 1]? = some (.cells (([0, 0, 0, 0] : List UInt64).map V64).toArray 46 (0, 0)) := by rw [hW2]; exact hp_new _ _ _ (by simp)
  have h2 := h.mod0 M2
  have hsz := M2.size
  have hs2 : w.heap.size + 1 < W2.heap.size := lt_of_block hbn
  have hv1 : ∀ x, v.ownBlock = some x → x < w.heap.size := h.own_lt
  have cbr : W2.cell? ⟨w.heap.size, 0, none⟩ = some (.pointer (some ⟨g, 0, none⟩)) := by rw [cell_blk hbr]; rfl
  have HT : Hid (∀ (x : List UInt64) (R' : Rr) (w3 : World), x.length = 4 → IsR w3 B g v R' → Mod [g] w w3 → w3.heap[w.heap.size + 1]? = some (.cells (x.map V64).toArray 46 (0, 0)) → ∃ zs : Array Value, zs = (x.map V64).toArray ∧ zs.size = 4 ∧ 
      (LoadO 46 (.pointer (some ⟨w.heap.size + 1, 0, none⟩))).run Try.prog w3 = .ok (.agg zs) w3 ∧ (StoreO 46 (.pointer (some ⟨w.heap.size + 1, 0, none⟩)) (.agg zs)).run Try.prog w3 = .ok () (w3.setRow (w.heap.size + 1) zs) ∧
      (w3.setRow (w.heap.size + 1) zs).heap[w.heap.size + 1]? = some (.cells zs 46 (0, 0)) ∧ IsR (w3.setRow (w.heap.size + 1) zs) B g v R' ∧ Mod [g] w (w3.setRow (w.heap.size + 1) zs)) := by
    refine Lib.hid ?_
    intro x R' w3 hx hi hm hb
    have hzs : (x.map V64).toArray.size = 4 := by simp [hx]
    refine ⟨_, rfl, hzs, loadO_row hb Try.underlying46 rfl (by rw [hzs]; exact infoWd), storeO_row hb rfl (by rw [hzs]; exact infoWd) (by simp [one64]), hp_setRow hb, hi.mod ((Mod.refl [w.heap.size + 1] w3).setRow (.inl (by simp)) _) (by simp; omega) (fun y hy hv => ?_), hm.setRow (.inr (by simp)) _⟩
    rw [List.mem_singleton] at hy
    subst hy
    have := hv1 _ hv
    omega
  have HCB := Lib.hid cbr
  have HBN := Lib.hid hbn
  have HM2 := Lib.hid M2
  have H2 := Lib.hid h2
  have HW2 := Lib.hid hW2
  have HV := Lib.hid hv1
  clear h hbr hbn M2 h2 cbr hW2 hv1
  by_cases he : R.e = 0
  · rw [if_neg (by simpa using he)]
    cases hp : wideP (R.b.drop R.at_) with
    | ok y =>
      obtain ⟨x, c⟩ := y
      have HXL := Lib.hid (wideP_len hp)
      have HTY := Lib.hid (try_yes B g v R W2 H2.out he 102 #[.pointer (some ⟨w.heap.size, 0, none⟩), .pointer (some ⟨w.heap.size + 1, 0, none⟩)] callWide1
        (fun w1 w2 => IsR w2 B g v { R with at_ := R.at_ + c } ∧ w2.heap[w.heap.size + 1]? = some (.cells (x.map V64).toArray 46 (0, 0)) ∧ Mod [g, w.heap.size + 1] w1 w2)
        (fun w1 m1 => wide1_yes' B g _ _ v R w1 (H2.out.mod0 m1) x c hp ((World.cell?_of_block (w := W2) (m1.block _ (by show w.heap.size < _; omega) (by simp))).trans HCB.out) (m1.get0 HBN.out) (by omega) (fun hv => by have := HV.out _ hv; omega)))
      clear he hp
      go_enter Try.func71, Try.ntmps71
      go_wp2_with fail
      refine Eq.mpr (congrArg (fun W => Calls _ _ _ W _) (show _ = W2 by rw [HW2.out]; rfl)) ?_
      refine HTY.out.mono ?_
      rintro e w3 ⟨rfl, w1, m1, hi, hb, hm⟩
      have M3 : Mod [g] w w3 := ((HM2.out.trans0 m1).mono (by simp)).trans hm (fun x hx => by
        simp at hx
        rcases hx with rfl | rfl
        · exact .inl (by simp)
        · exact .inr (by omega))
      obtain ⟨zs, hz1, hz2, hL, hS, g1, HE⟩ := HT.out x _ w3 HXL.out hi M3 hb
      have HG1 := Lib.hid g1
      have HZ1 := Lib.hid hz1
      have HZ2 := Lib.hid hz2
      clear m1 hi hb hm g1 hz1 hz2
      go_wp2_with fail
      exact bodyPost_ret (results_cell_row rfl _ _ (w.heap.size + 1) _ zs (0, 0) _ rfl HG1.out Try.underlying46 rfl (by rw [HZ2.out]; exact infoWd)) rfl ⟨by rw [HZ1.out], HE⟩
    | error er =>
      have HTY := Lib.hid (try_no B g v R W2 H2.out he 102 #[.pointer (some ⟨w.heap.size, 0, none⟩), .pointer (some ⟨w.heap.size + 1, 0, none⟩)] callWide1 er [g] (by simp; omega)
        (fun w1 m1 => wide1_no B g _ _ v R w1 (H2.out.mod0 m1) er hp ((World.cell?_of_block (w := W2) (m1.block _ (by show w.heap.size < _; omega) (by simp))).trans HCB.out)))
      clear he hp
      go_enter Try.func71, Try.ntmps71
      go_wp2_with fail
      refine Eq.mpr (congrArg (fun W => Calls _ _ _ W _) (show _ = W2 by rw [HW2.out]; rfl)) ?_
      refine HTY.out.mono ?_
      rintro e w3 ⟨rfl, hi, hm⟩
      have hb := hm.get HBN.out (by simp; omega)
      have M3 : Mod [g] w w3 := (HM2.out.mono (by simp)).trans hm (fun x hx => .inl (by simpa using hx))
      obtain ⟨zs, hz1, hz2, hL, hS, g1, HE⟩ := HT.out [0, 0, 0, 0] _ w3 rfl hi M3 hb
      have HG1 := Lib.hid g1
      have HZ1 := Lib.hid hz1
      have HZ2 := Lib.hid hz2
      clear hi hb hm g1 hz1 hz2
      go_wp2_with fail
      exact bodyPost_ret (results_cell_row rfl _ _ (w.heap.size + 1) _ zs (0, 0) _ rfl HG1.out Try.underlying46 rfl (by rw [HZ2.out]; exact infoWd)) rfl ⟨by rw [HZ1.out], HE⟩
  · rw [if_pos he]
    refine (rWide_skip B g v R w H.out he).mono ?_
    rintro e w' ⟨rfl, hm⟩
    exact ⟨rfl, H.out.mod0 hm, hm.mono (by simp)⟩
end Go.Proofs.Ytnmcbdppbpfegaa
