/- Lists of digests in the laws: same, lentPath, keptPath, turn. Condition: fewer than 2^32 of them. -/
import Derived.Test.YtbbobpjcbnfpfaaDoorTrDigs
import Derived.Test.YtbbobpjcbnfpfaaDoorTrShown
import Derived.Test.YtbbobpjcbnfpfaaDoorTrCheck
namespace Go.Proofs.YtbbobpjcbnfpfaaDoor
open Go.RowKit
attribute [local go_sem high] one8 st8 cm8 b_and8 b_and8r b_and8l b_or8 b_or8r b_or8l b_xor8 b_xor8r b_xor8l b_andNot8 b_andNot8r b_andNot8l b_add8 b_add8r b_add8l b_sub8 b_sub8r b_sub8l b_mul8 b_mul8r b_mul8l b_eql8 b_eql8r b_eql8l b_neq8 b_neq8r b_neq8l b_lss8 b_lss8r b_lss8l b_leq8 b_leq8r b_leq8l b_gtr8 b_gtr8r b_gtr8l b_geq8 b_geq8r b_geq8l b_quo8r b_rem8r b_shl8r b_shr8r b_shl8l b_shr8l u_xor8 g_eql8 g_neq8 g_eql8' g_neq8' one32 st32 cm32 b_and32 b_and32r b_and32l b_or32 b_or32r b_or32l b_xor32 b_xor32r b_xor32l b_andNot32 b_andNot32r b_andNot32l b_add32 b_add32r b_add32l b_sub32 b_sub32r b_sub32l b_mul32 b_mul32r b_mul32l b_eql32 b_eql32r b_eql32l b_neq32 b_neq32r b_neq32l b_lss32 b_lss32r b_lss32l b_leq32 b_leq32r b_leq32l b_gtr32 b_gtr32r b_gtr32l b_geq32 b_geq32r b_geq32l b_quo32r b_rem32r b_shl32r b_shr32r b_shl32l b_shr32l u_xor32 g_eql32 g_neq32 g_eql32' g_neq32' one64 st64 cm64 b_and64 b_and64r b_and64l b_or64 b_or64r b_or64l b_xor64 b_xor64r b_xor64l b_andNot64 b_andNot64r b_andNot64l b_add64 b_add64r b_add64l b_sub64 b_sub64r b_sub64l b_mul64 b_mul64r b_mul64l b_eql64 b_eql64r b_eql64l b_neq64 b_neq64r b_neq64l b_lss64 b_lss64r b_lss64l b_leq64 b_leq64r b_leq64l b_gtr64 b_gtr64r b_gtr64l b_geq64 b_geq64r b_geq64l b_quo64r b_rem64r b_shl64r b_shr64r b_shl64l b_shr64l u_xor64 g_eql64 g_neq64 g_eql64' g_neq64' c_u8_u8 c_u8_u32 c_u8_u64 c_i_u8 c_u32_u8 c_u32_u32 c_u32_u64 c_i_u32 c_u64_u8 c_u64_u32 c_u64_u64 c_i_u64 c_u8_i c_u32_i
attribute [local go_sem ↓] ce8 ce32 ce64
attribute [local go_sem ↓] sliced_slp loadO26 storeO26 buildO24
def mk77 : Bs := 77 :: zeros 31
theorem mk77_len : mk77.length = 32 := by rw [mk77, List.length_cons, zeros_length]
theorem built77 : Tryd.prog.built 24 [(0, .int .u8 77)] = some (mk77.map V8).toArray := by kernel_rfl
theorem run_mk77 (w : World) : (BuildO 24 #[(0, .int .u8 77)]).run Tryd.prog w = .ok (dv mk77) w := run_build w _ _ _ built77
theorem all_marks {l : List Bs} (h : All32 l) (n : Nat) : All32 (l ++ List.replicate n mk77) := by
  intro x hx
  rcases List.mem_append.1 hx with hx | hx
  · exact h x hx
  · rw [List.eq_of_mem_replicate hx]; exact mk77_len
set_option maxRecDepth 100000 in
theorem same_q (l r : List Bs) (p q : Option Addr) (c d n m : Nat) (w : World) (hn : n = l.length) (hm : m = r.length) (hl : RdD w p c l) (hr : RdD w q d r) (al : All32 l) (ar : All32 r) (h32 : n ≤ 9223372036854775806) (h33 : m ≤ 9223372036854775806) :
    Calls Tryd.prog 29 #[.slice p n c, .slice q m d] w fun e w' => e = .returned (.bool (l == r)) ∧ ∃ k, w' = w.drewN k := by
  have HL := Lib.hid (fun k => hl.mod0 ((Mod.refl [] w).drewN k))
  have HR := Lib.hid (fun k => hr.mod0 ((Mod.refl [] w).drewN k))
  by_cases hnm : n = m
  · subst hnm
    have HN := Lib.hid hn
    have HM := Lib.hid hm
    clear hn hm hl hr
    go_enter Tryd.func29, Tryd.ntmps29
    go_wp2_with fail
    go_loopw [5] (fun v wr => ∃ i k : Nat, i ≤ n ∧ v = .int .i64 i ∧ Hid (l.take i = r.take i) ∧ wr = w.drewN k) (fun v _ => n - (intOf v).toNat)
    case atStart => exact ⟨0, 0, by omega, rfl, Lib.hid rfl, rfl⟩
    case round =>
      obtain ⟨i, k, hi, rfl, HI, rfl⟩ := hrel
      by_cases hlt : i < n
      · obtain ⟨x, hx⟩ : ∃ x, l[i]? = some x := ⟨l[i]'(by have := HN.out; omega), List.getElem?_eq_getElem _⟩
        obtain ⟨y, hy⟩ : ∃ y, r[i]? = some y := ⟨r[i]'(by have := HM.out; omega), List.getElem?_eq_getElem _⟩
        obtain ⟨b1, o1, rfl, _⟩ := (HL.out 0).elem dgc_len i x hx
        obtain ⟨b2, o2, rfl, _⟩ := (HR.out 0).elem dgc_len i y hy
        have hx32 := al x (List.mem_of_getElem? hx)
        have hy32 := ar y (List.mem_of_getElem? hy)
        have hLa := fun m => loadD_at (w := (w.drewN k).drewN m) ((HL.out k).mod0 ((Mod.refl [] _).drewN m)) (i := i) x hx hx32
        have hLb := fun m => loadD_at (w := (w.drewN k).drewN m) ((HR.out k).mod0 ((Mod.refl [] _).drewN m)) (i := i) y hy hy32
        have hE := fun w => neqD w x y hx32 hy32
        have hG := eqGuardD
        have HX := Lib.hid hx
        have HY := Lib.hid hy
        have f1 : (0 : Int) ≤ (i : Int) := by omega
        have f2 : (i : Int) < (n : Int) := by omega
        clear hx hy
        have hdr : ∀ m, (w.drewN k).drewN m = w.drewN (k + m) := fun m => by unfold World.drewN; simp [Nat.add_assoc]
        have HDR := Lib.hid hdr
        clear hdr
        generalize hwk : w.drewN k = wk at *
        have HWK := Lib.hid hwk
        clear hwk
        by_cases hxy : x = y
        · have hb : (!(x == y)) = false := by simp [hxy]
          have HXY := Lib.hid hxy
          clear hxy
          go_wp2_with fail
          go_quiet (fail)
          go_wp2_with fail
          go_roundw
          case rel =>
            refine ⟨i + 1, _, by omega, by go_num, Lib.hid ?_, HDR.out _⟩
            rw [List.take_add_one, List.take_add_one, HI.out, HX.out, HY.out, HXY.out]
          case measure => simp [intOf]; omega
        · have hb : (!(x == y)) = true := by simp [hxy]
          have HXY := Lib.hid hxy
          clear hxy
          go_wp2_with fail
          go_quiet (fail)
          go_wp2_with fail
          go_ret
          refine ⟨?_, _, HDR.out _⟩
          have : (l == r) = false := by
            rw [beq_eq_false_iff_ne]
            rintro rfl
            rw [HX.out] at HY
            exact HXY.out (Option.some.inj HY.out)
          rw [this]; rfl
      · have hin : i = n := by omega
        have hd : decide ((i : Int) < (n : Int)) = false := by simp; omega
        have HIN := Lib.hid hin
        clear hin
        go_wp2_with fail
        go_ret
        refine ⟨?_, _, rfl⟩
        have h := HI.out
        rw [HIN.out, List.take_of_length_le (by have := HN.out; omega), List.take_of_length_le (by have := HM.out; omega)] at h
        rw [h]; simp
  · have hb : ((n : Int) != (m : Int)) = true := by simp; omega
    have e : (l == r) = false := by
      rw [beq_eq_false_iff_ne]
      rintro rfl
      exact hnm (hn.trans hm.symm)
    rw [e]
    clear hn hm hl hr HL HR
    go_enter Tryd.func29, Tryd.ntmps29
    go_wp2_with fail
    go_ret
    exact ⟨rfl, 0, rfl⟩
theorem same_any (l r : List Bs) (p q : Option Addr) (c d n m : Nat) (w : World) (hn : n = l.length) (hm : m = r.length) (hl : RdD w p c l) (hr : RdD w q d r) (al : All32 l) (ar : All32 r) (h32 : n ≤ 9223372036854775806) (h33 : m ≤ 9223372036854775806) :
    Calls Tryd.prog 29 #[.slice p n c, .slice q m d] w fun e w' => e = .returned (.bool (l == r)) ∧ Mod [] w w' :=
  (same_q l r p q c d n m w hn hm hl hr al ar h32 h33).mono fun _ _ h => ⟨h.1, by obtain ⟨k, e⟩ := h.2; rw [e]; exact (Mod.refl [] w).drewN k⟩
end Go.Proofs.YtbbobpjcbnfpfaaDoor
namespace Go.Proofs.YtbbobpjcbnfpfaaDoor
open Go.RowKit
attribute [local go_sem high] one8 st8 cm8 b_and8 b_and8r b_and8l b_or8 b_or8r b_or8l b_xor8 b_xor8r b_xor8l b_andNot8 b_andNot8r b_andNot8l b_add8 b_add8r b_add8l b_sub8 b_sub8r b_sub8l b_mul8 b_mul8r b_mul8l b_eql8 b_eql8r b_eql8l b_neq8 b_neq8r b_neq8l b_lss8 b_lss8r b_lss8l b_leq8 b_leq8r b_leq8l b_gtr8 b_gtr8r b_gtr8l b_geq8 b_geq8r b_geq8l b_quo8r b_rem8r b_shl8r b_shr8r b_shl8l b_shr8l u_xor8 g_eql8 g_neq8 g_eql8' g_neq8' one32 st32 cm32 b_and32 b_and32r b_and32l b_or32 b_or32r b_or32l b_xor32 b_xor32r b_xor32l b_andNot32 b_andNot32r b_andNot32l b_add32 b_add32r b_add32l b_sub32 b_sub32r b_sub32l b_mul32 b_mul32r b_mul32l b_eql32 b_eql32r b_eql32l b_neq32 b_neq32r b_neq32l b_lss32 b_lss32r b_lss32l b_leq32 b_leq32r b_leq32l b_gtr32 b_gtr32r b_gtr32l b_geq32 b_geq32r b_geq32l b_quo32r b_rem32r b_shl32r b_shr32r b_shl32l b_shr32l u_xor32 g_eql32 g_neq32 g_eql32' g_neq32' one64 st64 cm64 b_and64 b_and64r b_and64l b_or64 b_or64r b_or64l b_xor64 b_xor64r b_xor64l b_andNot64 b_andNot64r b_andNot64l b_add64 b_add64r b_add64l b_sub64 b_sub64r b_sub64l b_mul64 b_mul64r b_mul64l b_eql64 b_eql64r b_eql64l b_neq64 b_neq64r b_neq64l b_lss64 b_lss64r b_lss64l b_leq64 b_leq64r b_leq64l b_gtr64 b_gtr64r b_gtr64l b_geq64 b_geq64r b_geq64l b_quo64r b_rem64r b_shl64r b_shr64r b_shl64l b_shr64l u_xor64 g_eql64 g_neq64 g_eql64' g_neq64' c_u8_u8 c_u8_u32 c_u8_u64 c_i_u8 c_u32_u8 c_u32_u32 c_u32_u64 c_i_u32 c_u64_u8 c_u64_u32 c_u64_u64 c_i_u64 c_u8_i c_u32_i
attribute [local go_sem ↓] ce8 ce32 ce64
attribute [local go_sem ↓] sliced_slp loadO26 storeO26 buildO24
def mks (n : Nat) : List Bs := List.replicate n mk77
theorem mks_length (n : Nat) : (mks n).length = n := by simp [mks]
theorem mks_get (n i : Nat) (h : i < n) : (mks n)[i]? = some mk77 := by simp [mks, h]
theorem mks_succ (n : Nat) : mks (n + 1) = mks n ++ [mk77] := by simp [mks, List.replicate_succ']
def zds (n : Nat) : List Bs := List.replicate n (zeros 32)
theorem zds_length (n : Nat) : (zds n).length = n := by simp [zds]
theorem lentp_step (a : List Bs) (k N : Nat) (h : k < N) : (a ++ mks k ++ zds (N - k)).set (a.length + k) mk77 = a ++ mks (k + 1) ++ zds (N - (k + 1)) := by
  rw [List.set_append_right _ _ (by simp [mks_length]), mks_succ]
  obtain ⟨z, hz⟩ : ∃ z, N - k = z + 1 := ⟨N - 1 - k, by omega⟩
  rw [hz, show zds (z + 1) = zeros 32 :: zds z from rfl, show N - (k + 1) = z by omega]
  simp [mks_length]
set_option maxRecDepth 100000 in
theorem lentPath_any (p : Option Addr) (cap n : Nat) (a : List Bs) (w : World) (hn : n = a.length) (ha : RdD w p cap a) (hd : a.length ≤ 4294967296) :
    Calls Tryd.prog 31 #[.slice p n cap] w fun e w' => e = .returned (.slice (some ⟨w.heap.size, 0, none⟩) (n + 9) (n + 9)) ∧ w'.heap[w.heap.size]? = some (.cells (blkD (a ++ mks 9)) 24) ∧ Mod [] w w' := by
  go_enter Tryd.func31, Tryd.ntmps31
  have HA := Lib.hid ha
  have HN := Lib.hid hn
  have hn4 : n ≤ 4294967296 := by omega
  clear ha hn hd
  go_wp2_with (first
    | (at_make; with_reducible refine wpList_makeD rfl _ _ rfl (n + 9) _ rfl rfl (by omega) (by omega) ?_)
    | (with_reducible refine froz_copy _ _ rfl ?_))
  unfold Froz
  refine wpList_copyD rfl _ _ rfl w.heap.size 0 (n + 9) (n + 9) p n cap a (zds (n + 9)) rfl rfl (hp_new _ _ _ rfl) (HA.out.mod0 ((Mod.refl [] w).alloc _)) HN.out (by simp [zds_length]) ?_
  have e : (zds (n + 9)).take 0 ++ (a.take (n + 9) ++ (zds (n + 9)).drop (0 + min a.length (n + 9))) = a ++ zds 9 := by
    have := HN.out
    rw [List.take_zero, List.nil_append, List.take_of_length_le (by omega), show 0 + min a.length (n + 9) = n by omega]
    simp [zds]
  rw [e]
  refine abs_w (C := fun W => wpList _ _ _ _ _ W) (fun W => W.heap[w.heap.size]? = some (.cells (blkD (a ++ zds 9)) 24) ∧ Mod [] w W) ⟨hp_setRow (hp_new _ _ _ rfl), ((Mod.refl [] w).alloc _).setRow (.inr (Nat.le_refl _)) _⟩ ?_
  rintro W ⟨hb0, hm0⟩
  have HB := Lib.hid hb0
  clear hb0 e
  go_wp2_with fail
  go_loopw [4] (fun v wr => ∃ k : Nat, k ≤ 9 ∧ v = .int .i64 ((n : Int) + k) ∧ wr.heap[w.heap.size]? = some (.cells (blkD (a ++ mks k ++ zds (9 - k))) 24) ∧ Mod [] w wr) (fun v _ => (n + 9) - (intOf v).toNat)
  case atStart => exact ⟨0, by omega, by simp, by simpa [mks] using HB.out, hm0⟩
  case round =>
    clear HB hm0
    obtain ⟨k, hk, rfl, hb, hm⟩ := hrel
    have HB := Lib.hid hb
    clear hb
    by_cases hlt : k < 9
    · obtain ⟨j, hj⟩ : ∃ j, j = n + k := ⟨_, rfl⟩
      have hjz : (n : Int) + (k : Int) = (j : Int) := by omega
      have hjl : j < n + 9 := by omega
      have hS := storeD_at HB.out mk77 mk77_len (j := j) (by have := HN.out; simp [mks_length, zds_length]; omega)
      have hB := run_mk77 wr
      obtain ⟨Z, hZ⟩ : ∃ Z, Z = blkD ((a ++ mks k ++ zds (9 - k)).set j mk77) := ⟨_, rfl⟩
      rw [← hZ] at hS
      obtain ⟨V, hV⟩ : ∃ V, V = dv mk77 := ⟨_, rfl⟩
      rw [← hV] at hS hB
      have HZ := Lib.hid hZ
      clear hZ hV
      rw [hjz]
      have HJ := Lib.hid hj
      have HJZ := Lib.hid hjz
      clear hj hjz
      go_wp2_with fail
      go_roundw
      case rel =>
        have hjz := HJZ.out
        refine ⟨k + 1, by omega, by go_num, ?_, hm.setRow (.inr (Nat.le_refl _)) _⟩
        have h := hp_setRow (cs := blkD ((a ++ mks k ++ zds (9 - k)).set j mk77)) HB.out
        have e := lentp_step a k 9 hlt
        rw [← HN.out, ← HJ.out] at e
        rw [e] at h
        have hz := HZ.out
        rw [e] at hz
        rw [hz]
        exact h
      case measure => have hjz := HJZ.out; simp [intOf]; omega
    · have hkk : k = 9 := by omega
      have HK := Lib.hid hkk
      have hd1 : decide ((n : Int) + (k : Int) < (n : Int) + 9) = false := by simp; omega
      clear hkk
      go_wp2_with fail
      go_ret
      refine ⟨rfl, ?_, hm⟩
      have h := HB.out
      rw [HK.out] at h
      simpa [zds] using h
set_option maxRecDepth 100000 in
theorem keptPath_any (g : Nat) (cp : Nat) (c : List Bs) (q : Option Addr) (qap m : Nat) (b : List Bs) (n : Nat) (hm : m = b.length) (hn : n = m + 9) (hc : c.length = b.length) (w : World) (hg : RdD w (some ⟨g, 0, none⟩) cp (c ++ mks 9)) (hb : RdD w q qap b) (ac : All32 c) (ab : All32 b) (hd : m ≤ 4294967296) :
    Calls Tryd.prog 33 #[.slice (some ⟨g, 0, none⟩) n cp, .slice q m qap] w fun e w' => e = .returned (.bool (c == b)) ∧ Mod [] w w' := by
  subst hn
  have hcp : m + 9 ≤ cp := by have := hg.le; simp [mks_length] at this; omega
  have hcel : ∀ k : Nat, k < 9 → (LoadO 24 (.pointer (some ⟨g, (m + k) * 32, none⟩))).run Tryd.prog w = .ok (dv mk77) w := by
    intro k hk
    have h := loadD_at hg (i := m + k) mk77 (by rw [List.getElem?_append_right (by omega), hm, ← hc, Nat.add_sub_cancel_left]; exact mks_get 9 k hk) mk77_len
    rwa [Nat.zero_add] at h
  have hra := hg.take c.length
  rw [List.take_left' rfl] at hra
  have HS := Lib.hid (same_any c b (some ⟨g, 0, none⟩) q cp qap m m w (by omega) hm hra hb ac ab (by omega) (by omega))
  have HC := Lib.hid hcel
  have HB := Lib.hid run_mk77
  have HNE := Lib.hid (fun w => neqD w mk77 mk77 mk77_len mk77_len)
  have hG := eqGuardD
  have hself : (mk77 == mk77) = true := by simp
  generalize mk77 = M at *
  rw [hself] at HNE
  clear hra hcel hg hb hc ac ab hm hself
  go_enter Tryd.func33, Tryd.ntmps33
  go_wp2_with fail
  go_loopw [5] (fun v wr => ∃ k : Nat, k ≤ 9 ∧ v = .int .i64 ((m : Int) + k) ∧ wr = w) (fun v _ => (m + 9) - (intOf v).toNat)
  case atStart => exact ⟨0, by omega, by simp, rfl⟩
  case round =>
    obtain ⟨k, hk, rfl, rfl⟩ := hrel
    by_cases hlt : k < 9
    · obtain ⟨j, hj⟩ : ∃ j, j = m + k := ⟨_, rfl⟩
      have hjz : (m : Int) + (k : Int) = (j : Int) := by omega
      have hjl : j < m + 9 := by omega
      have hcj := HC.out k hlt
      rw [← hj] at hcj
      have hB := HB.out wr
      have hN := HNE.out wr
      rw [hjz]
      have HJZ := Lib.hid hjz
      clear hj hjz
      go_wp2_with fail
      go_roundw
      case rel => have hjz := HJZ.out; exact ⟨k + 1, by omega, by go_num, by first | rfl | trivial⟩
      case measure => have hjz := HJZ.out; simp [intOf]; omega
    · have hkk : k = 9 := by omega
      have hd1 : decide ((m : Int) + (k : Int) < (m : Int) + 9) = false := by simp; omega
      clear hkk
      have f1 : (0 : Int) ≤ (m : Int) := by omega
      have f2 : (m : Int) ≤ (cp : Int) := by omega
      go_wp2_with fail
      refine HS.out.mono ?_
      rintro e w2 ⟨rfl, m2⟩
      go_wp2_with fail
      go_ret
      exact ⟨rfl, m2⟩
end Go.Proofs.YtbbobpjcbnfpfaaDoor
namespace Go.Proofs.YtbbobpjcbnfpfaaDoor
open Go.RowKit
attribute [local go_sem high] one8 st8 cm8 b_and8 b_and8r b_and8l b_or8 b_or8r b_or8l b_xor8 b_xor8r b_xor8l b_andNot8 b_andNot8r b_andNot8l b_add8 b_add8r b_add8l b_sub8 b_sub8r b_sub8l b_mul8 b_mul8r b_mul8l b_eql8 b_eql8r b_eql8l b_neq8 b_neq8r b_neq8l b_lss8 b_lss8r b_lss8l b_leq8 b_leq8r b_leq8l b_gtr8 b_gtr8r b_gtr8l b_geq8 b_geq8r b_geq8l b_quo8r b_rem8r b_shl8r b_shr8r b_shl8l b_shr8l u_xor8 g_eql8 g_neq8 g_eql8' g_neq8' one32 st32 cm32 b_and32 b_and32r b_and32l b_or32 b_or32r b_or32l b_xor32 b_xor32r b_xor32l b_andNot32 b_andNot32r b_andNot32l b_add32 b_add32r b_add32l b_sub32 b_sub32r b_sub32l b_mul32 b_mul32r b_mul32l b_eql32 b_eql32r b_eql32l b_neq32 b_neq32r b_neq32l b_lss32 b_lss32r b_lss32l b_leq32 b_leq32r b_leq32l b_gtr32 b_gtr32r b_gtr32l b_geq32 b_geq32r b_geq32l b_quo32r b_rem32r b_shl32r b_shr32r b_shl32l b_shr32l u_xor32 g_eql32 g_neq32 g_eql32' g_neq32' one64 st64 cm64 b_and64 b_and64r b_and64l b_or64 b_or64r b_or64l b_xor64 b_xor64r b_xor64l b_andNot64 b_andNot64r b_andNot64l b_add64 b_add64r b_add64l b_sub64 b_sub64r b_sub64l b_mul64 b_mul64r b_mul64l b_eql64 b_eql64r b_eql64l b_neq64 b_neq64r b_neq64l b_lss64 b_lss64r b_lss64l b_leq64 b_leq64r b_leq64l b_gtr64 b_gtr64r b_gtr64l b_geq64 b_geq64r b_geq64l b_quo64r b_rem64r b_shl64r b_shr64r b_shl64l b_shr64l u_xor64 g_eql64 g_neq64 g_eql64' g_neq64' c_u8_u8 c_u8_u32 c_u8_u64 c_i_u8 c_u32_u8 c_u32_u32 c_u32_u64 c_i_u32 c_u64_u8 c_u64_u32 c_u64_u64 c_i_u64 c_u8_i c_u32_i
attribute [local go_sem ↓] ce8 ce32 ce64
attribute [local go_sem ↓] sliced_slp loadO26 storeO26 buildO24
theorem flat_put : ∀ (l : List Bs) (i : Nat) (x : Bs) (j : Nat) (v : UInt8), l[i]? = some x → x.length = 32 → j < 32 → (l.set i (x.set j v)).flatMap dgc = (l.flatMap dgc).set (i * 32 + j) (V8 v)
  | [], i, x, j, v, h, _, _ => by simp at h
  | y :: l, 0, x, j, v, h, hx, hj => by
    simp only [List.getElem?_cons_zero, Option.some.injEq] at h
    subst h
    rw [List.set_cons_zero, List.flatMap_cons, List.flatMap_cons, Nat.zero_mul, Nat.zero_add, List.set_append_left _ _ (by rw [dgc_len]; exact hj), dgc_of (x := y.set j v) (by rw [List.length_set]; exact hx), dgc_of hx, List.map_set]
  | y :: l, i + 1, x, j, v, h, hx, hj => by
    rw [List.set_cons_succ, List.flatMap_cons, List.flatMap_cons, flat_put l i x j v (by simpa using h) hx hj, List.set_append_right _ _ (by rw [dgc_len, Nat.succ_mul]; omega), dgc_len, Nat.succ_mul]
    congr 2
    omega
theorem blkD_put {w : World} {b : Nat} {l : List Bs} {t : TypeId} (h : w.heap[b]? = some (.cells (blkD l) t)) (i : Nat) (x : Bs) (j : Nat) (v : UInt8) (hi : l[i]? = some x) (hx : x.length = 32) (hj : j < 32) :
    (w.setCell ⟨b, i * 32 + j, none⟩ (V8 v)).heap[b]? = some (.cells (blkD (l.set i (x.set j v))) t) := by
  have h1 := hp_sc (j := i * 32 + j) (v := V8 v) h
  have e : (blkD l).setIfInBounds (i * 32 + j) (V8 v) = blkD (l.set i (x.set j v)) := by
    unfold blkD
    rw [List.setIfInBounds_toArray, flat_put l i x j v hi hx hj]
  rw [← e]
  exact h1
theorem All32.set {l : List Bs} (h : All32 l) (i : Nat) (y : Bs) (hy : y.length = 32) : All32 (l.set i y) := by
  intro x hx
  rcases List.mem_or_eq_of_mem_set hx with hx | hx
  · exact h x hx
  · rw [hx]; exact hy
set_option maxRecDepth 100000 in
theorem turn_any (b n c : Nat) (D : List Bs) (w : World) (h : w.heap[b]? = some (.cells (blkD D) 24)) (hn : n ≤ D.length) (a32 : All32 D) (hd : n ≤ 4294967296) :
    Calls Tryd.prog 35 #[.slice (some ⟨b, 0, none⟩) n c] w fun e w' => e = .returned (.tuple #[]) ∧ ∃ D' : List Bs, D'.length = D.length ∧ All32 D' ∧ w'.heap[b]? = some (.cells (blkD D') 24) ∧ Mod [b] w w' := by
  have HB := Lib.hid h
  have HA := Lib.hid a32
  have HN := Lib.hid hn
  clear h a32 hn
  go_enter Tryd.func35, Tryd.ntmps35
  go_wp2_with fail
  go_loopw [2] (fun v wr => ∃ (i : Nat) (D' : List Bs), i ≤ n ∧ v = .int .i64 i ∧ Hid (D'.length = D.length) ∧ Hid (All32 D') ∧ wr.heap[b]? = some (.cells (blkD D') 24) ∧ Mod [b] w wr) (fun v _ => n - (intOf v).toNat)
  case atStart => exact ⟨0, D, by omega, rfl, Lib.hid rfl, HA, HB.out, Mod.refl _ _⟩
  case round =>
    obtain ⟨i, D', hi, rfl, HL, HA', hb, hm⟩ := hrel
    have HB' := Lib.hid hb
    have HM := Lib.hid hm
    clear hb hm
    by_cases hlt : i < n
    · obtain ⟨x, hx⟩ : ∃ x, D'[i]? = some x := ⟨D'[i]'(by have := HN.out; have := HL.out; omega), List.getElem?_eq_getElem _⟩
      have hx32 := HA'.out x (List.mem_of_getElem? hx)
      obtain ⟨j, hj⟩ : ∃ j, j = i % 32 := ⟨_, rfl⟩
      have hj32 : j < 32 := by omega
      have hc : wr.cell? ⟨b, i * 32 + j, none⟩ = some (V8 (x.getD j 0)) := by
        rw [cell_blk HB'.out]
        unfold blkD
        rw [List.getElem?_toArray]
        refine flatMap_get dgc 32 dgc_len D' i x j _ hx ?_
        rw [dgc_of hx32, List.getElem?_map, List.getD_eq_getElem?_getD, List.getElem?_eq_getElem (by omega)]
        rfl
      have hf : wr.frozen? ⟨b, i * 32 + j, none⟩ = false := frozen_blk HB'.out _
      have hjz : (i : Int).tmod 32 = (j : Int) := by rw [hj]; rw [Int.tmod_eq_emod_of_nonneg (by omega)]; omega
      have HX := Lib.hid hx
      have HX32 := Lib.hid hx32
      have f0 : (0 : Int) ≤ (i : Int) := by omega
      have f1 : (i : Int) < (n : Int) := by omega
      have f2 : (0 : Int) ≤ (j : Int) := by omega
      have f3 : (j : Int) < 32 := by omega
      clear hx hx32 hj
      generalize x.getD j 0 = y at *
      go_wp2_with fail
      go_region
      go_wp2_with fail
      go_roundw
      case rel =>
        refine ⟨i + 1, D'.set i (x.set j (y ^^^ 1)), by omega, by go_num, Lib.hid (by rw [List.length_set]; exact HL.out), Lib.hid (HA'.out.set i _ (by rw [List.length_set]; exact HX32.out)), ?_, (HM.out.setCell (.inl (List.mem_singleton.2 rfl)) _).drew⟩
        exact blkD_put HB'.out i x j (y ^^^ 1) HX.out HX32.out hj32
      case measure => simp [intOf]; omega
    · have hin : i = n := by omega
      have hd : decide ((i : Int) < (n : Int)) = false := by simp; omega
      clear hin
      go_wp2_with fail
      go_end0
      exact ⟨rfl, D', HL.out, HA'.out, HB'.out, HM.out⟩
end Go.Proofs.YtbbobpjcbnfpfaaDoor
