/- WireAsksOnce, the walk: whatever the bytes, true. Condition: at most 2^20 bytes. -/
import Derived.Test.YtnmcbdppbpfegaaRrList
import Derived.Test.YtnmcbdppbpfegaaWlHelp
import Derived.Test.YtnmcbdppbpfegaaWnKnown
namespace Go.Proofs.Ytnmcbdppbpfegaa
open Go.RowKit
attribute [local go_sem high] one8 st8 cm8 b_and8 b_and8r b_and8l b_or8 b_or8r b_or8l b_xor8 b_xor8r b_xor8l b_andNot8 b_andNot8r b_andNot8l b_add8 b_add8r b_add8l b_sub8 b_sub8r b_sub8l b_mul8 b_mul8r b_mul8l b_eql8 b_eql8r b_eql8l b_neq8 b_neq8r b_neq8l b_lss8 b_lss8r b_lss8l b_leq8 b_leq8r b_leq8l b_gtr8 b_gtr8r b_gtr8l b_geq8 b_geq8r b_geq8l b_quo8r b_rem8r b_shl8r b_shr8r b_shl8l b_shr8l u_xor8 g_eql8 g_neq8 g_eql8' g_neq8' one32 st32 cm32 b_and32 b_and32r b_and32l b_or32 b_or32r b_or32l b_xor32 b_xor32r b_xor32l b_andNot32 b_andNot32r b_andNot32l b_add32 b_add32r b_add32l b_sub32 b_sub32r b_sub32l b_mul32 b_mul32r b_mul32l b_eql32 b_eql32r b_eql32l b_neq32 b_neq32r b_neq32l b_lss32 b_lss32r b_lss32l b_leq32 b_leq32r b_leq32l b_gtr32 b_gtr32r b_gtr32l b_geq32 b_geq32r b_geq32l b_quo32r b_rem32r b_shl32r b_shr32r b_shl32l b_shr32l u_xor32 g_eql32 g_neq32 g_eql32' g_neq32' one64 st64 cm64 b_and64 b_and64r b_and64l b_or64 b_or64r b_or64l b_xor64 b_xor64r b_xor64l b_andNot64 b_andNot64r b_andNot64l b_add64 b_add64r b_add64l b_sub64 b_sub64r b_sub64l b_mul64 b_mul64r b_mul64l b_eql64 b_eql64r b_eql64l b_neq64 b_neq64r b_neq64l b_lss64 b_lss64r b_lss64l b_leq64 b_leq64r b_leq64l b_gtr64 b_gtr64r b_gtr64l b_geq64 b_geq64r b_geq64l b_quo64r b_rem64r b_shl64r b_shr64r b_shl64l b_shr64l u_xor64 g_eql64 g_neq64 g_eql64' g_neq64' c_u8_u8 c_u8_u32 c_u8_u64 c_i_u8 c_u32_u8 c_u32_u32 c_u32_u64 c_i_u32 c_u64_u8 c_u64_u32 c_u64_u64 c_i_u64 c_u8_i c_u32_i
attribute [local go_sem ↓] ce8 ce32 ce64
attribute [local go_sem ↓] sliced_slp
/-- A reader behind some numbers. -/
def numsR (R : Rr) : Nat → Rr
  | 0 => R
  | k + 1 => (numsR R k).num.1
theorem stop_nat {N : Nat} {E : Nat → Prop} (n i : Nat) (hn : n ≤ N) (hi : i ≤ N) (h1 : n = N ∨ E n) (h2 : ∀ m, m < n → ¬ E m) (h3 : i = N ∨ E i) (h4 : ∀ m, m < i → ¬ E m) : n = i := by
  rcases Nat.lt_trichotomy n i with h | h | h
  · rcases h1 with h1 | h1
    · omega
    · exact absurd h1 (h4 n h)
  · exact h
  · rcases h3 with h3 | h3
    · omega
    · exact absurd h3 (h2 i h)
/-- The reader of these bytes. -/
def rr0 (l : List UInt8) : Rr := if 4194304 < l.length then ⟨[], 0, 30⟩ else ⟨l, 0, 0⟩
theorem newR0 (B : Nat) (p : Option Addr) (cap : Nat) (l : List UInt8) (w : World) (hB : B ≤ w.heap.size) (hr : Rd V8 w p cap l) (hl : l.length ≤ 1099511627776) : Calls Try.prog 8 #[.slice p l.length cap] w (NewR B (rr0 l) w) := by
  unfold rr0
  by_cases h : 4194304 < l.length
  · rw [if_pos h]; exact newR_long B p cap l.length w hB h hl
  · rw [if_neg h]; exact newR_any B p cap l w hB hr (by omega)
theorem callAsk1 (xs : Array Value) (w : World) : (callFunc 16 xs).run Try.prog w = .ok (.enter 16 xs) w := by kernel_rfl
theorem ask1_any (B g bc c : Nat) (v : Value) (R : Rr) (w : World) (h : IsR w B g v R) (hc : w.heap[bc]? = some (.cells #[.int .i64 c] 3 (0, 0))) (hcl : c ≤ 1099511627776) :
    Calls Try.prog 16 #[.pointer (some ⟨g, 0, none⟩), .pointer (some ⟨bc, 0, none⟩)] w fun e w' => e = .returned (.int .i64 R.num.2) ∧ IsR w' B g v R.num.1 ∧ w'.heap[bc]? = some (.cells #[.int .i64 ((c + 1 : Nat) : Int)] 3 (0, 0)) ∧ Mod [g, bc] w w' := by
  have hne : bc ≠ g := by
    rintro rfl
    have := h.blk
    rw [hc] at this; injection this with this; injection this with _ h2 _
    exact absurd h2 (by decide)
  have hvb : v.ownBlock ≠ some bc := by
    intro hv
    obtain ⟨C, hb⟩ := h.own.type bc hv
    rw [hc] at hb; injection hb with hb; injection hb with _ h2 _
    exact absurd h2 (by decide)
  have c1 : w.cell? ⟨bc, 0, none⟩ = some (.int .i64 c) := by rw [cell_blk hc]; rfl
  have f1 := frozen_blk hc 0
  obtain ⟨w2, hw2⟩ : ∃ W, W = w.setCell ⟨bc, 0, none⟩ (.int .i64 ((c : Int) + 1)) := ⟨_, rfl⟩
  have hm2 : Mod [bc] w w2 := by rw [hw2]; exact (Mod.refl [bc] w).setCell (p := ⟨bc, 0, none⟩) (.inl (by simp)) _
  have hi2 := h.mod hm2 (by simpa using hne.symm) (fun x hx hv => by rw [List.mem_singleton] at hx; subst hx; exact hvb hv)
  have hb2 : w2.heap[bc]? = some (.cells #[.int .i64 ((c + 1 : Nat) : Int)] 3 (0, 0)) := by rw [hw2, hp_sc hc]; rfl
  have hN := rNumber_any B g v R w2 hi2
  rw [hw2] at hN
  have HN := Lib.hid hN
  have HB2 := Lib.hid hb2
  have HM2 := Lib.hid hm2
  have HW2 := Lib.hid hw2
  have HNE := Lib.hid hne
  clear h hc hN hb2 hm2 hw2 hi2 hvb hne
  go_enter Try.func16, Try.ntmps16
  go_wp2_with fail
  refine HN.out.mono ?_
  rintro e w3 ⟨rfl, hi, hm⟩
  rw [← HW2.out] at hm
  have HI := Lib.hid hi
  have HB := Lib.hid (hm.get HB2.out (by simpa using HNE.out))
  have HM := Lib.hid ((HM2.out.mono (S' := [g, bc]) (fun x hx => .inl (by simp at hx; simp [hx]))).trans hm (fun x hx => .inl (by simp at hx; simp [hx])))
  clear hi hm c1 f1 HN
  go_wp2_with fail
  go_ret
  exact ⟨rfl, HI.out, HB.out, HM.out⟩
theorem ty_ne {w : World} {a b : Nat} {C C' : Array Value} {t t' : TypeId} {fr fr' : Nat × Nat} (h : w.heap[a]? = some (.cells C t fr)) (h' : w.heap[b]? = some (.cells C' t' fr')) (ht : t ≠ t') : a ≠ b := by
  rintro rfl
  rw [h] at h'; injection h' with h'; injection h' with _ h5 _
  exact ht h5
set_option maxRecDepth 100000 in
set_option maxHeartbeats 1000000 in
theorem asks_main (p : Option Addr) (cap : Nat) (l : List UInt8) (most ahead : Int) (w : World) (hr : Rd V8 w p cap l) (hl : l.length ≤ 1048576) (h0 : -9223372036854775808 ≤ ahead) (h1 : ahead ≤ 9223372036854775807) :
    Calls Try.prog 3 #[.slice p l.length cap, .int .i64 most, .int .i64 ahead] w fun e w' => e = .returned (.bool true) ∧ Mod [] w w' := by
  have hmf : ∀ (fn : Fn) (first cap : Array Value) (w : World), (Instr.makeFunc fn first cap).run Try.prog w = .ok (.func fn first cap) w := fun _ _ _ _ => rfl
  have HR := Lib.hid hr
  have HN := Lib.hid (newR0 w.heap.size p cap l w (Nat.le_refl _) hr (by omega))
  have HK := Lib.hid known_any
  have HP := Lib.hid (fun w1 => pick_any ahead 4 w1 h0 h1 (by decide) (by decide))
  have hpk := pk_lt ahead 4 (by decide)
  obtain ⟨pa, hpa⟩ : ∃ pa, pa = pk ahead 4 := ⟨_, rfl⟩
  rw [← hpa] at HP hpk
  obtain ⟨R0, hR0⟩ : ∃ R, R = rr0 l := ⟨_, rfl⟩
  rw [← hR0] at HN
  have HR0 := Lib.hid hR0
  clear hr hpa hR0
  go_enter Try.func3, Try.ntmps3
  go_wp2_with fail
  refine HN.out.mono ?_
  rintro e w1 ⟨g, v, rfl, hg, hvb, hi1, m1⟩
  have HI1 := Lib.hid hi1
  have M1 := Lib.hid m1
  have HO := Lib.hid (own_any p cap l w1 (HR.out.mod0 m1) (by omega))
  clear hi1 m1 HN
  go_wp2_with fail
  refine HO.out.mono ?_
  rintro e w2 ⟨rfl, hb2, m2⟩
  have hrd2 : Rd V8 w2 (some ⟨w1.heap.size, 0, none⟩) l.length l := Rd.of_blk hb2 (fun j v hv => by simpa using hv) (Nat.le_refl _)
  have hlt2 := lt_of_block hb2
  have hD := dread_any (some ⟨w1.heap.size, 0, none⟩) l.length l w2 hrd2 (by omega) (fun x hx => by cases hx; exact hlt2)
  change Calls _ _ _ _ (fun e w' => ∃ g, e = .returned (.pointer (some ⟨g, 0, none⟩)) ∧ w2.heap.size ≤ g ∧ IsD w' g (some ⟨w1.heap.size, 0, none⟩) l.length l.length (rr0 l) ∧ Mod [] w2 w') at hD
  rw [← HR0.out] at hD
  have HD := Lib.hid hD
  have HI2 := Lib.hid (HI1.out.mod0 m2)
  have M2 := Lib.hid (M1.out.trans0 m2)
  obtain ⟨bd, hbd⟩ : ∃ b, b = w1.heap.size := ⟨_, rfl⟩
  have HB2 := Lib.hid hb2
  clear hb2 m2 hrd2 hD HO HI1
  go_wp2_with fail
  refine HD.out.mono ?_
  rintro e w3 ⟨gd, rfl, hgd, hd3, m3⟩
  rw [← hbd] at hd3
  have HD3 := Lib.hid hd3
  have HI3 := Lib.hid (HI2.out.mod0 m3)
  have M3 := Lib.hid (M2.out.trans0 m3)
  have hb3 := m3.get0 HB2.out
  rw [← hbd] at hb3
  have HB3 := Lib.hid hb3
  clear hd3 m3 HD hb3 HI2 HB2 hbd
  go_wp2_with fail
  refine (HK.out _).mono ?_
  rintro e w4 ⟨rfl, m4⟩
  have HD4 := Lib.hid (HD3.out.mod0 m4)
  have HI4 := Lib.hid (HI3.out.mod0 m4)
  have HB4 := Lib.hid (m4.get0 HB3.out)
  have M4 := Lib.hid (M3.out.trans0 m4)
  clear m4 HD3 HI3 HB3 M3
  go_wp2_with fail
  go_loopw [9] (fun iv wr => ∃ k : Nat, k ≤ pa ∧ iv = .int .i64 k ∧ IsR wr w.heap.size g v (numsR R0 k) ∧ IsD wr gd (some ⟨bd, 0, none⟩) l.length l.length (numsR R0 k) ∧ wr.heap[bd]? = some (.cells (l.map V8).toArray 5 (0, 0)) ∧ Mod [] w wr) (fun iv _ => pa - (intOf iv).toNat)
  case atStart => exact ⟨0, by omega, rfl, HI4.out, HD4.out, HB4.out, M4.out⟩
  case round =>
    obtain ⟨k, hk, rfl, hi, hd, hb, hm⟩ := hrel
    have HI := Lib.hid hi
    have HD := Lib.hid hd
    have HB := Lib.hid hb
    have HM := Lib.hid hm
    have hgt : gd ≠ g := ty_ne hd.blk hi.blk (by decide)
    have hbg : bd ≠ g := ty_ne hb hi.blk (by decide)
    have hbgd : bd ≠ gd := ty_ne hb hd.blk (by decide)
    have hgb := hi.base
    have hvgd : v.ownBlock ≠ some gd := fun hv => by
      obtain ⟨C, hC⟩ := hi.own.type gd hv
      exact ty_ne hC hd.blk (by decide) rfl
    clear hi hd hb hm HI4 HD4 HB4 M4
    go_wp2_with fail
    refine (HP.out _).mono ?_
    rintro e w5 ⟨rfl, hw5⟩
    subst hw5
    by_cases hkl : k < pa
    · have hdk : decide (k < pa) = true := by simpa using hkl
      go_wp2_with fail
      refine (rNumber_any w.heap.size g v _ wr HI.out).mono ?_
      rintro e w6 ⟨rfl, hi6, m6⟩
      have HD6 := Lib.hid (HD.out.mod m6 (by simpa using hgt) (fun x hx => by cases hx; simpa using hbg))
      have HI6 := Lib.hid hi6
      have HB6 := Lib.hid (m6.get HB.out (by simpa using hbg))
      have HM6 := Lib.hid (HM.out.trans m6 (fun x hx => .inr (by simp at hx; omega)))
      clear hi6 m6
      go_wp2_with fail
      refine (dnum_any gd l.length l.length _ _ w6 HD6.out).mono ?_
      rintro e w7 ⟨rfl, hd7, m7⟩
      have HI7 := Lib.hid (HI6.out.mod m7 (by simpa using hgt.symm) (fun x hx hv => by rw [List.mem_singleton] at hx; subst hx; exact hvgd hv))
      have HB7 := Lib.hid (m7.get HB6.out (by simpa using hbgd))
      have HM7 := Lib.hid (HM6.out.trans m7 (fun x hx => .inr (by simp at hx; have := M2.out.size; omega)))
      have HD7 := Lib.hid hd7
      clear hd7 m7
      go_wp2_with fail
      go_roundw
      case rel => exact ⟨k + 1, by omega, by go_num, HI7.out, HD7.out, HB7.out, HM7.out⟩
      case measure => simp [intOf]; omega
    · have hdk : decide (k < pa) = false := by simpa using hkl
      obtain ⟨Ra, hRa⟩ : ∃ Ra, Ra = numsR R0 k := ⟨_, rfl⟩
      rw [← hRa] at HI HD
      have hcn : (Ra.count most).2 ≤ 4194304 := by
        unfold Rr.count
        split
        · exact Nat.zero_le _
        · split
          · exact Nat.zero_le _
          · rename_i n c hp
            obtain ⟨_, _, hl⟩ := manyP_ok hp
            have := HI.out.len
            rw [List.length_drop] at hl
            show n ≤ _
            omega
      obtain ⟨bc, hbc⟩ : ∃ b, b = wr.heap.size := ⟨_, rfl⟩
      obtain ⟨W5, hW5⟩ : ∃ W, W = wr.alloc (.cells #[.int .i64 0] 3) := ⟨_, rfl⟩
      have hm5 : Mod [] wr W5 := by rw [hW5]; exact (Mod.refl [] wr).alloc _
      have hb5 : W5.heap[bc]? = some (.cells #[.int .i64 0] 3 (0, 0)) := by rw [hW5]; exact hp_new _ _ _ hbc
      have hi5 := HI.out.mod0 hm5
      have hd5 := HD.out.mod0 hm5
      have hgl : g < bc := by rw [hbc]; exact HI.out.lt
      have hgdl : gd < bc := by rw [hbc]; exact lt_of_block HD.out.blk
      have hbdl : bd < bc := by rw [hbc]; exact lt_of_block HB.out
      have hvl : ∀ x, v.ownBlock = some x → x < bc := by rw [hbc]; exact HI.out.own_lt
      have hs5 : bc < W5.heap.size := lt_of_block hb5
      have hoffd : ∀ T : List Nat, bd ∉ T → Off (some ⟨bd, 0, none⟩) T := fun T hT x hx => by cases hx; exact hT
      have hL := listInt_any w.heap.size g v Ra W5 hi5 most 16 #[.pointer (some ⟨bc, 0, none⟩)] callAsk1 [g, bc] (by intro x hx; simp at hx; rcases hx with rfl | rfl <;> omega)
        (fun xs R1 w1 => IsR w1 w.heap.size g v R1 ∧ R1 = numsR (Ra.count most).1 xs.length ∧ w1.heap[bc]? = some (.cells #[.int .i64 ((xs.length : Nat) : Int)] 3 (0, 0)) ∧ IsD w1 gd (some ⟨bd, 0, none⟩) l.length l.length Ra ∧ (∀ m, m < xs.length → (numsR (Ra.count most).1 m).e = 0))
        (fun w1 hi hm => ⟨hi, rfl, hm.get hb5 (by simp; omega), hd5.mod hm (by simpa using hgt) (hoffd _ (by simpa using hbg)), by simp⟩)
        (fun xs R1 w1 hI => hI.1)
        (fun xs R1 w1 w2 T hI hm hT => by
          obtain ⟨hi, hR1, hbx, hd, hz⟩ := hI
          have hn : ∀ y, y < bc → y ∉ T := fun y hy hx => by have := hT _ hx; omega
          have hn2 : bc ∉ T := fun hx => by have := hT _ hx; omega
          exact ⟨hi.mod hm (hn _ hgl) (fun x hx hv => by have := hvl _ hv; exact hn _ this hx), hR1, hm.get hbx hn2, hd.mod hm (hn _ hgdl) (hoffd _ (hn _ hbdl)), hz⟩)
        (fun xs R1 w1 hI he hlt hm => by
          obtain ⟨hi, hR1, hbx, hd, hz⟩ := hI
          refine (ask1_any w.heap.size g bc xs.length v R1 w1 hi hbx (by omega)).mono ?_
          rintro e w2 ⟨rfl, hi2, hb2, hm2⟩
          have hlen : (xs ++ [((R1.num.2 : Nat) : Int)]).length = xs.length + 1 := by simp
          refine ⟨_, R1.num.1, rfl, ⟨hi2, by rw [hlen, hR1]; rfl, by rw [hlen]; exact hb2, hd.mod hm2 (by simp; omega) (hoffd _ (by simp; omega)), fun m hm3 => ?_⟩, hm2⟩
          rw [hlen] at hm3
          rcases Nat.lt_or_ge m xs.length with h3 | h3
          · exact hz m h3
          · obtain rfl : m = xs.length := by omega
            rw [← hR1]; exact he)
      obtain ⟨N, hN⟩ : ∃ N, N = (Ra.count most).2 := ⟨_, rfl⟩
      obtain ⟨RC, hRC⟩ : ∃ RC, RC = (Ra.count most).1 := ⟨_, rfl⟩
      rw [← hN, ← hRC] at hL
      rw [← hN] at hcn
      rw [hW5] at hL
      have HL := Lib.hid hL
      have HW5 := Lib.hid hW5
      have HBC := Lib.hid hbc
      have HM5 := Lib.hid (HM.out.trans0 hm5)
      have HNN := Lib.hid hN
      have HRC := Lib.hid hRC
      have hgd0 : w.heap.size ≤ gd := by have := M2.out.size; omega
      clear hL hW5 hm5 hb5 hi5 hd5 hN hRC hRa HP hbc
      go_wp2_with fail
      rw [← HBC.out]
      refine HL.out.mono ?_
      rintro e w6 ⟨r, xs, R', rfl, ⟨hi6, hR6, hb6, hd6, hz6⟩, hm6, hxn, hcase⟩
      rw [← HW5.out] at hm6 hcase
      have HI6 := Lib.hid hi6
      have HR6 := Lib.hid hR6
      have HB6 := Lib.hid hb6
      have HZ6 := Lib.hid hz6
      have HCS := Lib.hid hcase
      have HM6 := Lib.hid (HM5.out.trans hm6 (fun x hx => .inr (by simp at hx; have := HM.out.size; rcases hx with rfl | rfl | rfl <;> omega)))
      have hCT := dcount_any gd l.length l.length _ _ w6 hd6 most
      rw [← HNN.out, ← HRC.out] at hCT
      have HCT := Lib.hid hCT
      clear hi6 hR6 hb6 hd6 hz6 hm6 hcase hCT HL
      go_wp2_with fail
      refine HCT.out.mono ?_
      rintro e w7 ⟨rfl, hd7, hm7⟩
      have HD7 := Lib.hid hd7
      have HI7 := Lib.hid (HI6.out.mod hm7 (by simpa using hgt.symm) (fun x hx hv => by rw [List.mem_singleton] at hx; subst hx; exact hvgd hv))
      have HB7 := Lib.hid (hm7.get HB6.out (by simp; omega))
      have HM7 := Lib.hid (HM6.out.trans hm7 (fun x hx => .inr (by simp at hx; omega)))
      clear hd7 hm7 HCT HI6 HB6
      go_wp2_with fail
      go_loopw [12, 14] (fun nv iv wr => ∃ i : Nat, i ≤ N ∧ nv = .int .i64 i ∧ iv = .int .i64 i ∧ IsD wr gd (some ⟨bd, 0, none⟩) l.length l.length (numsR RC i) ∧ Mod [gd] w7 wr ∧ (∀ m, m < i → (numsR RC m).e = 0)) (fun _ iv _ => N - (intOf iv).toNat)
      case atStart => exact ⟨0, by omega, rfl, rfl, HD7.out, Mod.refl _ _, by simp⟩
      case round =>
        obtain ⟨i, hi, rfl, rfl, hd, hm, hz⟩ := hrel
        have HDD := Lib.hid hd
        have HMM := Lib.hid hm
        have HZ := Lib.hid hz
        have cd := hd.c2
        obtain ⟨Di, hDi⟩ : ∃ D, D = numsR RC i := ⟨_, rfl⟩
        have HDI := Lib.hid hDi
        rw [← hDi] at HDD cd
        clear hd hm hz hDi
        by_cases hgo : i < N ∧ Di.e = 0
        · obtain ⟨hin, he⟩ := hgo
          have e0 : (Di.e == 0) = true := by simpa using he
          have HE := Lib.hid he
          clear he
          go_wp2_with fail
          refine (dnum_any gd l.length l.length _ _ wr HDD.out).mono ?_
          rintro e w9 ⟨rfl, hd9, hm9⟩
          have HD9 := Lib.hid hd9
          have HM9 := Lib.hid (HMM.out.trans hm9 (fun x hx => .inl hx))
          clear hd9 hm9 cd
          go_wp2_with fail
          go_roundw
          case rel => exact ⟨i + 1, by omega, by go_num, by go_num, by have := HD9.out; rw [HDI.out] at this; exact this, HM9.out, fun m hm => by
            rcases Nat.lt_or_ge m i with h3 | h3
            · exact HZ.out m h3
            · obtain rfl : m = i := by omega
              rw [← HDI.out]; exact HE.out⟩
          case measure => simp [intOf]; omega
        · have hsi : xs.length = i := by
            refine stop_nat (N := N) (E := fun m => (numsR RC m).e ≠ 0) xs.length i hxn hi ?_ (fun m hm h => h (HZ6.out m hm)) ?_ (fun m hm h => h (HZ.out m hm))
            · rcases HCS.out with ⟨_, h, _⟩ | ⟨h, _⟩
              · exact .inl h
              · exact .inr (by rw [← HR6.out]; exact h)
            · by_cases h : i < N
              · exact .inr (by rw [← HDI.out]; exact fun h2 => hgo ⟨h, h2⟩)
              · exact .inl (by omega)
          have hRD : R' = Di := by rw [HR6.out, hsi, HDI.out]
          subst hsi
          subst hRD
          have HIE := Lib.hid (HI7.out.mod HMM.out (by simpa using hgt.symm) (fun x hx hv => by rw [List.mem_singleton] at hx; subst hx; exact hvgd hv))
          have hbb := HMM.out.get HB7.out (by simp; omega)
          have cb : wr.cell? ⟨bc, 0, none⟩ = some (.int .i64 ((xs.length : Nat) : Int)) := by rw [cell_blk hbb]; rfl
          have cd1 := HDD.out.c1
          have HER := Lib.hid (fun n => err_any w.heap.size g v R' (wr.drewN n) (HIE.out.mod0 ((Mod.refl [] wr).drewN n)))
          have HAT := Lib.hid (fun n => at_any w.heap.size g v R' (wr.drewN n) (HIE.out.mod0 ((Mod.refl [] wr).drewN n)))
          have MZ := Lib.hid (HM7.out.trans HMM.out (fun x hx => .inr (by simp at hx; omega)))
          clear hbb
          rcases HCS.out with ⟨he, hxN, hown⟩ | ⟨he, hr⟩
          · obtain ⟨pr, cr, hrv, _, _⟩ := OwnI.rdI hown
            have e0 : (R'.e == 0) = true := by simpa using he
            have hln : ¬ xs.length < N := by omega
            clear hgo he hown hxN
            subst hrv
            go_wp2_with fail
            go_quiet ((first
              | (go_at_call 18; exact Calls.quiet_of_same (HER.out _))
              | (go_at_call 19; exact Calls.quiet_of_same (HAT.out _))))
            go_wp2_with fail
            go_ret
            exact ⟨by simp, MZ.out.drewN _⟩
          · have e0 : (R'.e == 0) = false := by simpa using he
            have e1 : (R'.e != 0) = true := by simpa using he
            clear hgo he
            subst hr
            rcases Nat.lt_or_ge xs.length N with hln | hln
            all_goals
              go_wp2_with fail
              go_quiet ((first
                | (go_at_call 18; exact Calls.quiet_of_same (HER.out _))
                | (go_at_call 19; exact Calls.quiet_of_same (HAT.out _))))
              go_wp2_with fail
              go_ret
              exact ⟨by simp, MZ.out.drewN _⟩
end Go.Proofs.Ytnmcbdppbpfegaa
